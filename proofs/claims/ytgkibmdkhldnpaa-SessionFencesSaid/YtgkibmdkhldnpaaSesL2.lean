/-
  PROVED HERE: SessionFences: for every input the law of layer 19 answers true and its input reads as before: the epochs that a robot is granted rise one by one, also over a restart, and an elder one never passes again. No conditions.
-/
import Derived.Test.YtgkibmdkhldnpaaSesC
import Derived.Test.YtgkibmdkhldnpaaLibA
import Derived.ProofKit
import Derived.Deep.DeepMust
namespace Go.Proofs.Ytgkibmdkhldnpaa
open Go.ChangeShapes Go.WideShapes Go.ChangeAt Go.RowKit

/-- Between two calls: the robot q has been granted gr epochs. -/
def FInv (w : World) (B g q gr m : Nat) : Prop := B ≤ g ∧ ∃ F, Tab w g F ∧ (F q).ep = gr ∧ ∀ r, r < 16 → 0 ≤ (F r).ep ∧ (F r).ep ≤ m ∧ (F r).rn = 0

theorem beat_keeps (g : Nat) (r : Int) (f : Nat → Rob) (epoch now : Int) (w : World) (hn : -9223372036854775808 ≤ now) (ht : Tab w g f) :
    Calls Try.prog 9 #[.pointer (some ⟨g, 0, none⟩), .int .i64 r, .int .i64 epoch, .int .i64 now] w fun e w' => ∃ (v : Int) (F : Nat → Rob), e = .returned (.int .i64 v) ∧ Tab w' g F ∧ (∀ i, (F i).ep = (f i).ep ∧ (F i).rn = (f i).rn) ∧ One g w w' := by
  by_cases h : r < 0 ∨ 16 ≤ r
  · exact (beat_out _ _ _ _ _ h).mono fun e w' ⟨h1, h2⟩ => ⟨1, f, h1, h2 ▸ ht, fun _ => ⟨rfl, rfl⟩, h2 ▸ Upd.refl _ _⟩
  · by_cases hc : checkS (f r.toNat) epoch now = 0
    · refine (beat_ok g r f epoch now w (by omega) (by omega) hn ht hc).mono fun e w' ⟨h1, h2, h3⟩ => ⟨0, _, h1, h2, fun i => ?_, h3⟩
      unfold beatT upd
      split
      · rename_i e; subst e; exact ⟨rfl, rfl⟩
      · exact ⟨rfl, rfl⟩
    · exact (beat_no g r f epoch now w (by omega) (by omega) ht hc).mono fun e w' ⟨h1, h2⟩ => ⟨_, f, h1, h2 ▸ ht, fun _ => ⟨rfl, rfl⟩, h2 ▸ Upd.refl _ _⟩

theorem report_keeps (g : Nat) (r : Int) (f : Nat → Rob) (epoch cell now : Int) (w : World) (hn : -9223372036854775808 ≤ now) (ht : Tab w g f) :
    Calls Try.prog 10 #[.pointer (some ⟨g, 0, none⟩), .int .i64 r, .int .i64 epoch, .int .i64 cell, .int .i64 now] w fun e w' => ∃ (v : Int) (F : Nat → Rob), e = .returned (.int .i64 v) ∧ Tab w' g F ∧ (∀ i, (F i).ep = (f i).ep ∧ (F i).rn = (f i).rn) ∧ One g w w' := by
  by_cases h : r < 0 ∨ 16 ≤ r
  · exact (report_out _ _ _ _ _ _ h).mono fun e w' ⟨h1, h2⟩ => ⟨1, f, h1, h2 ▸ ht, fun _ => ⟨rfl, rfl⟩, h2 ▸ Upd.refl _ _⟩
  · by_cases hc : checkS (f r.toNat) epoch now = 0
    · refine (report_ok g r f epoch cell now w (by omega) (by omega) hn ht hc).mono fun e w' ⟨h1, h2, h3⟩ => ⟨0, _, h1, h2, fun i => ?_, h3⟩
      unfold reportT upd
      split
      · rename_i e; subst e; exact ⟨rfl, rfl⟩
      · exact ⟨rfl, rfl⟩
    · exact (report_no g r f epoch cell now w (by omega) (by omega) ht hc).mono fun e w' ⟨h1, h2⟩ => ⟨_, f, h1, h2 ▸ ht, fun _ => ⟨rfl, rfl⟩, h2 ▸ Upd.refl _ _⟩

/-- A registration of another robot, or of none. -/
theorem register_other (g q m : Nat) (r : Int) (f : Nat → Rob) (now : Int) (w : World) (hn : -9223372036854775808 ≤ now) (ht : Tab w g f) (hm : m ≤ 1000) (hf : ∀ i, i < 16 → 0 ≤ (f i).ep ∧ (f i).ep ≤ m ∧ (f i).rn = 0) (hq : r ≠ q) :
    Calls Try.prog 8 #[.pointer (some ⟨g, 0, none⟩), .int .i64 r, .int .i64 now] w fun e w' => ∃ (a b : Int) (F : Nat → Rob), e = .returned (.tuple #[.int .i64 a, .int .i64 b]) ∧ Tab w' g F ∧ (F q).ep = (f q).ep ∧ (∀ i, i < 16 → 0 ≤ (F i).ep ∧ (F i).ep ≤ (m + 1 : Nat) ∧ (F i).rn = 0) ∧ One g w w' := by
  by_cases h : r < 0 ∨ 16 ≤ r
  · exact (register_out _ _ _ _ h).mono fun e w' ⟨h1, h2⟩ => ⟨_, _, f, h1, h2 ▸ ht, rfl, fun i hi => by have := hf i hi; omega, h2 ▸ Upd.refl _ _⟩
  · have hr := hf r.toNat (by omega)
    refine (register_ok g r f now w (by omega) (by omega) hn ht (by omega)).mono fun e w' ⟨h1, h2, h3⟩ => ⟨_, _, _, h1, h2, ?_, fun i hi => ?_, h3⟩
    · unfold regT
      rw [upd_ne _ _ _ _ (by omega)]
    · unfold regT upd
      have := hf i hi
      split
      · rename_i e; subst e; simp only; omega
      · omega

theorem TabC.drew {w : World} {g : Nat} {f : Nat → Rob} {X : Nat → List Value} (h : TabC w g f X) : TabC w.drew g f X := h

/-- What a script's entry holds. -/
structure OpV where
  kind : Int
  rob : Int
  ep : Int
  cell : Int
  now : Int
  st : Int
  ra : Option Addr
  rn : Nat
  rc : Nat

def ScriptAt (w : World) (A : Option Addr) (n : Nat) : Prop := ∀ k, k < n → ∃ (b off : Nat) (x : OpV), A = some ⟨b, off, none⟩ ∧ b < w.heap.size ∧ -9223372036854775808 ≤ x.now ∧
  w.cell? ⟨b, off + k * 7, none⟩ = some (.int .i64 x.kind) ∧ w.cell? ⟨b, off + k * 7 + 1, none⟩ = some (.int .i64 x.rob) ∧ w.cell? ⟨b, off + k * 7 + 2, none⟩ = some (.int .i64 x.ep) ∧ w.cell? ⟨b, off + k * 7 + 3, none⟩ = some (.int .i64 x.cell) ∧
  w.cell? ⟨b, off + k * 7 + 4, none⟩ = some (.int .i64 x.now) ∧ w.cell? ⟨b, off + k * 7 + 5, none⟩ = some (.int .i64 x.st) ∧ w.cell? ⟨b, off + k * 7 + 6, none⟩ = some (.slice x.ra x.rn x.rc)

theorem chk_none {x : Rob} {e now : Int} (h : x.ep = 0) : checkS x e now = 4 := by simp [checkS, h]
theorem chk_other {x : Rob} {e gr now : Int} (h : x.ep = gr) (h0 : gr ≠ 0) (hne : e ≠ gr) : checkS x e now = 190 := by
  simp only [checkS, h]
  rw [if_neg h0, if_neg (fun a => hne a.symm)]
theorem chk_same {x : Rob} {gr now : Int} (h : x.ep = gr) (h0 : gr ≠ 0) : checkS x gr now = 0 ∨ checkS x gr now = 191 := by
  simp only [checkS, h]
  rw [if_neg h0]
  simp only [if_true]
  by_cases hd : x.dl < now
  · rw [if_pos hd]; exact .inr rfl
  · rw [if_neg hd]; exact .inl rfl

set_option maxRecDepth 100000 in
set_option maxHeartbeats 40000000 in
theorem fences_walk (r0 : Int) (A : Option Addr) (n c : Nat) (w : World) (hn : n ≤ maxLen) (hg : ScriptAt w A n) :
    Calls Try.prog 4 #[.slice A n c, .int .i64 r0] w fun e w' => e = .returned (.bool true) ∧ Below w.heap.size w w' := by
  unfold maxLen at hn
  have HG := Lib.hid hg
  clear hg
  go_enter Try.func4, Try.ntmps4
  go_wp2_with fail
  refine (new_any _).mono ?_
  rintro e w1 ⟨rfl, ht1, hb1⟩
  have HT1 := Lib.hid ht1
  clear ht1
  go_wp2_with fail
  refine (awake_any _).mono ?_
  rintro e w2 ⟨rfl, hb2⟩
  have ht2 := HT1.out.upd_ (Upd.of_below (S := fun _ => False) hb2) (fun h => h)
  have hb3 : Below w.heap.size w w2 := hb1.trans (hb2.mono hb1.size)
  obtain ⟨q', hq, hq0, hq1, -⟩ := umod r0 16 (by decide) (by decide)
  obtain ⟨q, rfl⟩ := Int.eq_ofNat_of_zero_le hq0
  have hst : FInv w2 w.heap.size w.heap.size q 0 0 := ⟨Nat.le_refl _, _, ht2, rfl, fun r hr => ⟨by decide, by decide, rfl⟩⟩
  have HS := Lib.hid hst
  clear hst ht2 HT1 hb1 hb2
  have HQ := Lib.hid hq
  clear hq
  go_wp2_with fail
  rw [HQ.out]
  go_loopw [5, 6, 7] (fun tv gv iv wr => ∃ (k g gr : Nat), iv = .int .i64 k ∧ k ≤ n ∧ k ≤ 80 ∧ tv = .pointer (some ⟨g, 0, none⟩) ∧ gv = .int .i64 gr ∧ FInv wr w.heap.size g q gr k ∧ Below w.heap.size w wr) (fun _ _ iv _ => 80 - (intOf iv).toNat)
  case atStart => exact ⟨0, w.heap.size, 0, rfl, by omega, by omega, rfl, rfl, HS.out, hb3⟩
  case round =>
    obtain ⟨k, g, gr, rfl, hk, hk80, rfl, rfl, hinv, hbr⟩ := hrel
    have HI := Lib.hid hinv
    clear hinv
    by_cases hboth : k < n ∧ k < 80
    · obtain ⟨hlt, h80⟩ := hboth
      obtain ⟨b, off, x, rfl, hbl, hnow, c0, c1, c2, c3, c4, c5, c6⟩ := HG.out k hlt
      replace c0 := (hbr.cell (p := ⟨b, off + k * 7, none⟩) hbl).trans c0
      replace c1 := (hbr.cell (p := ⟨b, off + k * 7 + 1, none⟩) hbl).trans c1
      replace c2 := (hbr.cell (p := ⟨b, off + k * 7 + 2, none⟩) hbl).trans c2
      replace c3 := (hbr.cell (p := ⟨b, off + k * 7 + 3, none⟩) hbl).trans c3
      replace c4 := (hbr.cell (p := ⟨b, off + k * 7 + 4, none⟩) hbl).trans c4
      replace c5 := (hbr.cell (p := ⟨b, off + k * 7 + 5, none⟩) hbl).trans c5
      replace c6 := (hbr.cell (p := ⟨b, off + k * 7 + 6, none⟩) hbl).trans c6
      obtain ⟨kd, rob, ep, cell, now, st, ra, rn, rc⟩ := x
      dsimp only at hnow c0 c1 c2 c3 c4 c5 c6
      obtain ⟨hBg, F, hT, hgr, hF⟩ := HI.out
      have HT := Lib.hid hT
      have HF := Lib.hid hF
      have HGR := Lib.hid hgr
      clear hT hF hgr HI
      have hwr := hbr.size
      have hlt2 := Blk.lt HT.out
      have hne : g ≠ wr.heap.size := by omega
      have hbx := Blk.new wr 37 #[.int .i64 kd, .int .i64 rob, .int .i64 ep, .int .i64 cell, .int .i64 now, .int .i64 st, .slice ra rn rc]
      have hta : Tab (wr.alloc (.cells #[.int .i64 kd, .int .i64 rob, .int .i64 ep, .int .i64 cell, .int .i64 now, .int .i64 st, .slice ra rn rc] 37)) g F := Blk.alloc HT.out _
      have HTA := Lib.hid hta
      clear hta
      have hba := hbr.alloc hbr.size (.cells #[.int .i64 kd, .int .i64 rob, .int .i64 ep, .int .i64 cell, .int .i64 now, .int .i64 st, .slice ra rn rc] 37)
      by_cases k1 : kd = 1
      · subst k1
        by_cases hrq : rob = (q : Int)
        · subst hrq
          have hqF := HF.out q (by omega)
          have hgq := HGR.out
          have hqF' : 0 ≤ (F ((q : Int)).toNat).ep ∧ (F ((q : Int)).toNat).ep < 9223372036854775807 := by rw [Int.toNat_natCast]; omega
          have hgr81 : (gr : Int) ≤ 80 := by rw [← hgq]; omega
          clear hgq hqF
          go_wp2_with fail
          refine (register_ok _ _ _ _ _ hq0 hq1 hnow HTA.out hqF').mono ?_
          rintro e w5 ⟨rfl, ht5, ho5⟩
          rw [Int.toNat_natCast, HGR.out]
          clear hqF'
          have hg5 : (regT F q now q).ep = (gr : Int) + 1 := by rw [regT, Int.toNat_natCast, upd_same]; show (F q).ep + 1 = _; rw [HGR.out]
          have hf5 : ∀ r, r < 16 → 0 ≤ (regT F q now r).ep ∧ (regT F q now r).ep ≤ (k + 1 : Nat) ∧ (regT F q now r).rn = 0 := fun r hr => by
            have h1 := HF.out r hr
            unfold regT upd
            simp only [Int.toNat_natCast]
            split
            · rename_i e; subst e; simp only; omega
            · omega
          have hbx5 := hbx.upd ho5 (fun e => hne e.symm)
          obtain ⟨-, -, -, -, kN, -⟩ := hbx5.c7
          have k1N := hbx5.cell 1
          have hb5 : Below w.heap.size w w5 := hba.trans (ho5.to_below (by simp; omega) (fun i hi e => by omega))
          have HT5 := Lib.hid ht5
          have HG5 := Lib.hid hg5
          have HF5 := Lib.hid hf5
          have hB5 := hBg
          have k1N' : w5.cell? ⟨wr.heap.size, 1, none⟩ = some (.int .i64 (q : Int)) := by rw [k1N]; rfl
          clear ht5 hg5 hf5 ho5 hbx5 hbx k1N
          go_wp2_with fail
          refine (epoch_any _ _ _ _ hq0 hq1 HT5.out).mono ?_
          rintro e w6 ⟨rfl, rfl⟩
          rw [Int.toNat_natCast, HG5.out]
          have hgs : ((gr:Int)+1) ≤ 81 := by have := (HF5.out q (by omega)).2.1; rw [HG5.out] at this; omega
          go_wp2_with fail
          go_loop [11, 12] (fun kv ev => ∃ kk : Int, ((gr:Int)+1) - 3 ≤ kk ∧ kk ≤ ((gr:Int)+1) + 2 ∧ kv = .int .i64 kk) (fun kv _ => (((gr:Int)+1) + 2 - intOf kv).toNat)
          case atStart => exact ⟨_, by omega, by omega, rfl⟩
          case round =>
            obtain ⟨kk, hk0, hk1, rfl⟩ := hrel
            by_cases hend : kk < ((gr:Int)+1) + 2
            · by_cases hz : (gr+1) = 0
              · try (exfalso; omega)
                all_goals
                  have hv := chk_none (e := kk) (now := now) (by rw [HG5.out]; omega)
                  have HV := Lib.hid hv
                  have hg0 : (((gr:Int)+1) == 0) = true := by rw [beq_iff_eq]; omega
                  have hg1 : ¬ (0 : Int) < ((gr:Int)+1) := by omega
                  clear hv hz
                  by_cases hkk : kk = ((gr:Int)+1)
                  · have hb1 : (kk == ((gr:Int)+1)) = true := beq_iff_eq.2 hkk
                    have hb2 : (kk != ((gr:Int)+1)) = false := by rw [hkk]; simp
                    clear hkk
                    go_wp2_with fail
                    refine (check_any _ _ _ _ _ _ hq0 hq1 HT5.out).mono ?_
                    rintro e w7 ⟨rfl, rfl⟩
                    rw [Int.toNat_natCast, HV.out]
                    go_wp2_with fail
                    go_round
                    case rel => exact ⟨kk + 1, by omega, by omega, rfl⟩
                    case measure => simp [intOf]; omega
                  · have hb1 : (kk == ((gr:Int)+1)) = false := beq_eq_false_iff_ne.2 hkk
                    have hb2 : (kk != ((gr:Int)+1)) = true := by rw [bne_iff_ne]; exact hkk
                    clear hkk
                    go_wp2_with fail
                    refine (check_any _ _ _ _ _ _ hq0 hq1 HT5.out).mono ?_
                    rintro e w7 ⟨rfl, rfl⟩
                    rw [Int.toNat_natCast, HV.out]
                    go_wp2_with fail
                    go_round
                    case rel => exact ⟨kk + 1, by omega, by omega, rfl⟩
                    case measure => simp [intOf]; omega
              · have hg0 : (((gr:Int)+1) == 0) = false := by rw [beq_eq_false_iff_ne]; omega
                have hg1 : (0 : Int) < ((gr:Int)+1) := by omega
                clear hz
                by_cases hkk : kk = ((gr:Int)+1)
                · have hb1 : (kk == ((gr:Int)+1)) = true := beq_iff_eq.2 hkk
                  have hb2 : (kk != ((gr:Int)+1)) = false := by rw [hkk]; simp
                  have hv := chk_same (now := now) HG5.out (by omega)
                  rw [← hkk] at hv
                  clear hkk
                  rcases hv with hv | hv
                  all_goals
                    have HV := Lib.hid hv
                    clear hv
                    go_wp2_with fail
                    refine (check_any _ _ _ _ _ _ hq0 hq1 HT5.out).mono ?_
                    rintro e w7 ⟨rfl, rfl⟩
                    rw [Int.toNat_natCast, HV.out]
                    go_wp2_with fail
                    go_round
                    case rel => exact ⟨kk + 1, by omega, by omega, rfl⟩
                    case measure => simp [intOf]; omega
                · have hv := chk_other (now := now) HG5.out (by omega) hkk
                  have hb1 : (kk == ((gr:Int)+1)) = false := beq_eq_false_iff_ne.2 hkk
                  have hb2 : (kk != ((gr:Int)+1)) = true := by rw [bne_iff_ne]; exact hkk
                  have HV := Lib.hid hv
                  clear hv hkk
                  go_wp2_with fail
                  refine (check_any _ _ _ _ _ _ hq0 hq1 HT5.out).mono ?_
                  rintro e w7 ⟨rfl, rfl⟩
                  rw [Int.toNat_natCast, HV.out]
                  go_wp2_with fail
                  go_round
                  case rel => exact ⟨kk + 1, by omega, by omega, rfl⟩
                  case measure => simp [intOf]; omega
            · go_wp2_with fail
              go_roundw
              case rel => exact ⟨k + 1, g, (gr+1), by go_num, by omega, by omega, rfl, by first | rfl | go_num, ⟨hB5, _, HT5.out, HG5.out, HF5.out⟩, hb5⟩
              case measure => simp [intOf]; omega
        · have hrq' : (rob == (q : Int)) = false := beq_eq_false_iff_ne.2 hrq
          go_wp2_with fail
          refine (register_other _ q k _ _ _ _ hnow HTA.out (by omega) HF.out hrq).mono ?_
          rintro e w5 ⟨a5, b5, F', rfl, ht5, he5, hf5, ho5⟩
          have hg5 : (F' q).ep = gr := by rw [he5]; exact HGR.out
          have hbx5 := hbx.upd ho5 (fun e => hne e.symm)
          obtain ⟨-, -, -, -, kN, -⟩ := hbx5.c7
          have k1N := hbx5.cell 1
          have k1N' : w5.cell? ⟨wr.heap.size, 1, none⟩ = some (.int .i64 rob) := by rw [k1N]; rfl
          have hb5 : Below w.heap.size w w5 := hba.trans (ho5.to_below (by simp; omega) (fun i hi e => by omega))
          have HT5 := Lib.hid ht5
          have HG5 := Lib.hid hg5
          have HF5 := Lib.hid hf5
          have hB5 := hBg
          clear ht5 hg5 hf5 ho5 he5 hbx5 hbx hrq k1N
          go_wp2_with fail
          refine (epoch_any _ _ _ _ hq0 hq1 HT5.out).mono ?_
          rintro e w6 ⟨rfl, rfl⟩
          rw [Int.toNat_natCast, HG5.out]
          have hgs : (gr:Int) ≤ 81 := by have := (HF5.out q (by omega)).2.1; rw [HG5.out] at this; omega
          go_wp2_with fail
          go_loop [11, 12] (fun kv ev => ∃ kk : Int, (gr:Int) - 3 ≤ kk ∧ kk ≤ (gr:Int) + 2 ∧ kv = .int .i64 kk) (fun kv _ => ((gr:Int) + 2 - intOf kv).toNat)
          case atStart => exact ⟨_, by omega, by omega, rfl⟩
          case round =>
            obtain ⟨kk, hk0, hk1, rfl⟩ := hrel
            by_cases hend : kk < (gr:Int) + 2
            · by_cases hz : gr = 0
              · try (exfalso; omega)
                all_goals
                  have hv := chk_none (e := kk) (now := now) (by rw [HG5.out]; omega)
                  have HV := Lib.hid hv
                  have hg0 : ((gr:Int) == 0) = true := by rw [beq_iff_eq]; omega
                  have hg1 : ¬ (0 : Int) < (gr:Int) := by omega
                  clear hv hz
                  by_cases hkk : kk = (gr:Int)
                  · have hb1 : (kk == (gr:Int)) = true := beq_iff_eq.2 hkk
                    have hb2 : (kk != (gr:Int)) = false := by rw [hkk]; simp
                    clear hkk
                    go_wp2_with fail
                    refine (check_any _ _ _ _ _ _ hq0 hq1 HT5.out).mono ?_
                    rintro e w7 ⟨rfl, rfl⟩
                    rw [Int.toNat_natCast, HV.out]
                    go_wp2_with fail
                    go_round
                    case rel => exact ⟨kk + 1, by omega, by omega, rfl⟩
                    case measure => simp [intOf]; omega
                  · have hb1 : (kk == (gr:Int)) = false := beq_eq_false_iff_ne.2 hkk
                    have hb2 : (kk != (gr:Int)) = true := by rw [bne_iff_ne]; exact hkk
                    clear hkk
                    go_wp2_with fail
                    refine (check_any _ _ _ _ _ _ hq0 hq1 HT5.out).mono ?_
                    rintro e w7 ⟨rfl, rfl⟩
                    rw [Int.toNat_natCast, HV.out]
                    go_wp2_with fail
                    go_round
                    case rel => exact ⟨kk + 1, by omega, by omega, rfl⟩
                    case measure => simp [intOf]; omega
              · have hg0 : ((gr:Int) == 0) = false := by rw [beq_eq_false_iff_ne]; omega
                have hg1 : (0 : Int) < (gr:Int) := by omega
                clear hz
                by_cases hkk : kk = (gr:Int)
                · have hb1 : (kk == (gr:Int)) = true := beq_iff_eq.2 hkk
                  have hb2 : (kk != (gr:Int)) = false := by rw [hkk]; simp
                  have hv := chk_same (now := now) HG5.out (by omega)
                  rw [← hkk] at hv
                  clear hkk
                  rcases hv with hv | hv
                  all_goals
                    have HV := Lib.hid hv
                    clear hv
                    go_wp2_with fail
                    refine (check_any _ _ _ _ _ _ hq0 hq1 HT5.out).mono ?_
                    rintro e w7 ⟨rfl, rfl⟩
                    rw [Int.toNat_natCast, HV.out]
                    go_wp2_with fail
                    go_round
                    case rel => exact ⟨kk + 1, by omega, by omega, rfl⟩
                    case measure => simp [intOf]; omega
                · have hv := chk_other (now := now) HG5.out (by omega) hkk
                  have hb1 : (kk == (gr:Int)) = false := beq_eq_false_iff_ne.2 hkk
                  have hb2 : (kk != (gr:Int)) = true := by rw [bne_iff_ne]; exact hkk
                  have HV := Lib.hid hv
                  clear hv hkk
                  go_wp2_with fail
                  refine (check_any _ _ _ _ _ _ hq0 hq1 HT5.out).mono ?_
                  rintro e w7 ⟨rfl, rfl⟩
                  rw [Int.toNat_natCast, HV.out]
                  go_wp2_with fail
                  go_round
                  case rel => exact ⟨kk + 1, by omega, by omega, rfl⟩
                  case measure => simp [intOf]; omega
            · go_wp2_with fail
              go_roundw
              case rel => exact ⟨k + 1, g, gr, by go_num, by omega, by omega, rfl, by first | rfl | go_num, ⟨hB5, _, HT5.out, HG5.out, HF5.out⟩, hb5⟩
              case measure => simp [intOf]; omega
      by_cases k6 : kd = 6
      · subst k6
        have htc : TabC (wr.alloc (.cells #[.int .i64 6, .int .i64 rob, .int .i64 ep, .int .i64 cell, .int .i64 now, .int .i64 st, .slice ra rn rc] 37)) g F (fun _ => []) :=
          ⟨HTA.out, fun r hr => ⟨by rw [(HF.out r hr).2.2]; exact ⟨by simp, fun h => absurd h (by omega)⟩, by simp, by rw [(HF.out r hr).2.2]; omega⟩⟩
        have HTC := Lib.hid htc
        clear htc
        go_wp2_with fail
        go_region_held3 (fun w' => w'.cell? ⟨wr.heap.size, 4, none⟩ = some (.int .i64 now))
          (first | go_keep | exact p4 | exact q4)
          (first
            | ((go_at_call 13; go_must (refine (list_any g F (fun _ => []) _ (TabC.drew HTC.out)).mono ?_; rintro e w4 ⟨A4, c4', L4, rfl, hl4, hb4⟩); go_must (have hbx4 := Blk.below (Blk.drew hbx) hb4 (by simp); obtain ⟨-, -, -, -, p4, -⟩ := hbx4.c7)))
            | ((go_at_call 12; refine (load_any F (fun _ => []) _ _ _ _ _ _ hnow hl4 (fun r hr => ⟨(HF.out r hr).1, by rw [(HF.out r hr).2.2]; omega, by simp⟩)).mono ?_; rintro e w5 ⟨g5, F', rfl, hgge, hl5, hb5'⟩; have hbx5 := Blk.below hbx4 hb5' (by have := hb4.size; simp at this; omega); obtain ⟨-, -, -, -, q4, -⟩ := hbx5.c7)))
        have hba4 : Below w.heap.size w w4 := (hba.drew).trans (hb4.mono (by simp; omega))
        have hb5 : Below w.heap.size w w5 := hba4.trans (hb5'.mono hba4.size)
        have hg5 : (F' q).ep = gr := by
          have h1 := hl5.2 q (by omega)
          by_cases h : (F q).ep ≠ 0
          · rw [(h1.1 h).1]; exact HGR.out
          · rw [h1.2 h, ← HGR.out]
            simp only [ne_eq, Decidable.not_not] at h
            rw [h]
            rfl
        have hf5 : ∀ r, r < 16 → 0 ≤ (F' r).ep ∧ (F' r).ep ≤ (k + 1 : Nat) ∧ (F' r).rn = 0 := fun r hr => by
          have h0 := HF.out r hr
          have h1 := hl5.2 r hr
          by_cases h : (F r).ep ≠ 0
          · obtain ⟨a1, _, _, a2, _⟩ := h1.1 h
            rw [a1, a2]
            omega
          · rw [h1.2 h]
            exact ⟨by decide, by simp [Rob.zero]; omega, rfl⟩
        have HT5 := Lib.hid hl5.1
        have HG5 := Lib.hid hg5
        have HF5 := Lib.hid hf5
        have hB5 : w.heap.size ≤ g5 := Nat.le_trans hba4.size hgge
        have kN := q4
        clear hl5 hl4 hb4 hb5' hg5 hf5 hbx4 hbx5 hbx p4 q4
        go_wp2_with fail
        refine (epoch_any _ _ _ _ hq0 hq1 HT5.out).mono ?_
        rintro e w6 ⟨rfl, rfl⟩
        rw [Int.toNat_natCast, HG5.out]
        have hgs : (gr:Int) ≤ 81 := by have := (HF5.out q (by omega)).2.1; rw [HG5.out] at this; omega
        go_wp2_with fail
        go_loop [11, 12] (fun kv ev => ∃ kk : Int, (gr:Int) - 3 ≤ kk ∧ kk ≤ (gr:Int) + 2 ∧ kv = .int .i64 kk) (fun kv _ => ((gr:Int) + 2 - intOf kv).toNat)
        case atStart => exact ⟨_, by omega, by omega, rfl⟩
        case round =>
          obtain ⟨kk, hk0, hk1, rfl⟩ := hrel
          by_cases hend : kk < (gr:Int) + 2
          · by_cases hz : gr = 0
            · try (exfalso; omega)
              all_goals
                have hv := chk_none (e := kk) (now := now) (by rw [HG5.out]; omega)
                have HV := Lib.hid hv
                have hg0 : ((gr:Int) == 0) = true := by rw [beq_iff_eq]; omega
                have hg1 : ¬ (0 : Int) < (gr:Int) := by omega
                clear hv hz
                by_cases hkk : kk = (gr:Int)
                · have hb1 : (kk == (gr:Int)) = true := beq_iff_eq.2 hkk
                  have hb2 : (kk != (gr:Int)) = false := by rw [hkk]; simp
                  clear hkk
                  go_wp2_with fail
                  refine (check_any _ _ _ _ _ _ hq0 hq1 HT5.out).mono ?_
                  rintro e w7 ⟨rfl, rfl⟩
                  rw [Int.toNat_natCast, HV.out]
                  go_wp2_with fail
                  go_round
                  case rel => exact ⟨kk + 1, by omega, by omega, rfl⟩
                  case measure => simp [intOf]; omega
                · have hb1 : (kk == (gr:Int)) = false := beq_eq_false_iff_ne.2 hkk
                  have hb2 : (kk != (gr:Int)) = true := by rw [bne_iff_ne]; exact hkk
                  clear hkk
                  go_wp2_with fail
                  refine (check_any _ _ _ _ _ _ hq0 hq1 HT5.out).mono ?_
                  rintro e w7 ⟨rfl, rfl⟩
                  rw [Int.toNat_natCast, HV.out]
                  go_wp2_with fail
                  go_round
                  case rel => exact ⟨kk + 1, by omega, by omega, rfl⟩
                  case measure => simp [intOf]; omega
            · have hg0 : ((gr:Int) == 0) = false := by rw [beq_eq_false_iff_ne]; omega
              have hg1 : (0 : Int) < (gr:Int) := by omega
              clear hz
              by_cases hkk : kk = (gr:Int)
              · have hb1 : (kk == (gr:Int)) = true := beq_iff_eq.2 hkk
                have hb2 : (kk != (gr:Int)) = false := by rw [hkk]; simp
                have hv := chk_same (now := now) HG5.out (by omega)
                rw [← hkk] at hv
                clear hkk
                rcases hv with hv | hv
                all_goals
                  have HV := Lib.hid hv
                  clear hv
                  go_wp2_with fail
                  refine (check_any _ _ _ _ _ _ hq0 hq1 HT5.out).mono ?_
                  rintro e w7 ⟨rfl, rfl⟩
                  rw [Int.toNat_natCast, HV.out]
                  go_wp2_with fail
                  go_round
                  case rel => exact ⟨kk + 1, by omega, by omega, rfl⟩
                  case measure => simp [intOf]; omega
              · have hv := chk_other (now := now) HG5.out (by omega) hkk
                have hb1 : (kk == (gr:Int)) = false := beq_eq_false_iff_ne.2 hkk
                have hb2 : (kk != (gr:Int)) = true := by rw [bne_iff_ne]; exact hkk
                have HV := Lib.hid hv
                clear hv hkk
                go_wp2_with fail
                refine (check_any _ _ _ _ _ _ hq0 hq1 HT5.out).mono ?_
                rintro e w7 ⟨rfl, rfl⟩
                rw [Int.toNat_natCast, HV.out]
                go_wp2_with fail
                go_round
                case rel => exact ⟨kk + 1, by omega, by omega, rfl⟩
                case measure => simp [intOf]; omega
          · go_wp2_with fail
            go_roundw
            case rel => exact ⟨k + 1, g5, gr, by go_num, by omega, by omega, rfl, by first | rfl | go_num, ⟨hB5, _, HT5.out, HG5.out, HF5.out⟩, hb5⟩
            case measure => simp [intOf]; omega
      by_cases k3 : kd = 3
      · subst k3
        go_wp2_with fail
        refine (beat_keeps _ _ _ _ _ _ hnow HTA.out).mono ?_
        rintro e w5 ⟨v, F', rfl, ht5, hs5, ho5⟩
        have hg5 : (F' q).ep = gr := by rw [(hs5 q).1]; exact HGR.out
        have hf5 : ∀ r, r < 16 → 0 ≤ (F' r).ep ∧ (F' r).ep ≤ (k + 1 : Nat) ∧ (F' r).rn = 0 := fun r hr => by have := HF.out r hr; have h2 := hs5 r; omega
        have hbx5 := hbx.upd ho5 (fun e => hne e.symm)
        obtain ⟨-, -, -, -, kN, -⟩ := hbx5.c7
        have hb5 : Below w.heap.size w w5 := hba.trans (ho5.to_below (by simp; omega) (fun i hi e => by omega))
        have HT5 := Lib.hid ht5
        have HG5 := Lib.hid hg5
        have HF5 := Lib.hid hf5
        have hB5 := hBg
        clear ht5 hg5 hf5 hs5 ho5 hbx5 hbx
        go_wp2_with fail
        refine (epoch_any _ _ _ _ hq0 hq1 HT5.out).mono ?_
        rintro e w6 ⟨rfl, rfl⟩
        rw [Int.toNat_natCast, HG5.out]
        have hgs : (gr:Int) ≤ 81 := by have := (HF5.out q (by omega)).2.1; rw [HG5.out] at this; omega
        go_wp2_with fail
        go_loop [11, 12] (fun kv ev => ∃ kk : Int, (gr:Int) - 3 ≤ kk ∧ kk ≤ (gr:Int) + 2 ∧ kv = .int .i64 kk) (fun kv _ => ((gr:Int) + 2 - intOf kv).toNat)
        case atStart => exact ⟨_, by omega, by omega, rfl⟩
        case round =>
          obtain ⟨kk, hk0, hk1, rfl⟩ := hrel
          by_cases hend : kk < (gr:Int) + 2
          · by_cases hz : gr = 0
            · try (exfalso; omega)
              all_goals
                have hv := chk_none (e := kk) (now := now) (by rw [HG5.out]; omega)
                have HV := Lib.hid hv
                have hg0 : ((gr:Int) == 0) = true := by rw [beq_iff_eq]; omega
                have hg1 : ¬ (0 : Int) < (gr:Int) := by omega
                clear hv hz
                by_cases hkk : kk = (gr:Int)
                · have hb1 : (kk == (gr:Int)) = true := beq_iff_eq.2 hkk
                  have hb2 : (kk != (gr:Int)) = false := by rw [hkk]; simp
                  clear hkk
                  go_wp2_with fail
                  refine (check_any _ _ _ _ _ _ hq0 hq1 HT5.out).mono ?_
                  rintro e w7 ⟨rfl, rfl⟩
                  rw [Int.toNat_natCast, HV.out]
                  go_wp2_with fail
                  go_round
                  case rel => exact ⟨kk + 1, by omega, by omega, rfl⟩
                  case measure => simp [intOf]; omega
                · have hb1 : (kk == (gr:Int)) = false := beq_eq_false_iff_ne.2 hkk
                  have hb2 : (kk != (gr:Int)) = true := by rw [bne_iff_ne]; exact hkk
                  clear hkk
                  go_wp2_with fail
                  refine (check_any _ _ _ _ _ _ hq0 hq1 HT5.out).mono ?_
                  rintro e w7 ⟨rfl, rfl⟩
                  rw [Int.toNat_natCast, HV.out]
                  go_wp2_with fail
                  go_round
                  case rel => exact ⟨kk + 1, by omega, by omega, rfl⟩
                  case measure => simp [intOf]; omega
            · have hg0 : ((gr:Int) == 0) = false := by rw [beq_eq_false_iff_ne]; omega
              have hg1 : (0 : Int) < (gr:Int) := by omega
              clear hz
              by_cases hkk : kk = (gr:Int)
              · have hb1 : (kk == (gr:Int)) = true := beq_iff_eq.2 hkk
                have hb2 : (kk != (gr:Int)) = false := by rw [hkk]; simp
                have hv := chk_same (now := now) HG5.out (by omega)
                rw [← hkk] at hv
                clear hkk
                rcases hv with hv | hv
                all_goals
                  have HV := Lib.hid hv
                  clear hv
                  go_wp2_with fail
                  refine (check_any _ _ _ _ _ _ hq0 hq1 HT5.out).mono ?_
                  rintro e w7 ⟨rfl, rfl⟩
                  rw [Int.toNat_natCast, HV.out]
                  go_wp2_with fail
                  go_round
                  case rel => exact ⟨kk + 1, by omega, by omega, rfl⟩
                  case measure => simp [intOf]; omega
              · have hv := chk_other (now := now) HG5.out (by omega) hkk
                have hb1 : (kk == (gr:Int)) = false := beq_eq_false_iff_ne.2 hkk
                have hb2 : (kk != (gr:Int)) = true := by rw [bne_iff_ne]; exact hkk
                have HV := Lib.hid hv
                clear hv hkk
                go_wp2_with fail
                refine (check_any _ _ _ _ _ _ hq0 hq1 HT5.out).mono ?_
                rintro e w7 ⟨rfl, rfl⟩
                rw [Int.toNat_natCast, HV.out]
                go_wp2_with fail
                go_round
                case rel => exact ⟨kk + 1, by omega, by omega, rfl⟩
                case measure => simp [intOf]; omega
          · go_wp2_with fail
            go_roundw
            case rel => exact ⟨k + 1, g, gr, by go_num, by omega, by omega, rfl, by first | rfl | go_num, ⟨hB5, _, HT5.out, HG5.out, HF5.out⟩, hb5⟩
            case measure => simp [intOf]; omega
      by_cases k4 : kd = 4
      · subst k4
        go_wp2_with fail
        refine (report_keeps _ _ _ _ _ _ _ hnow HTA.out).mono ?_
        rintro e w5 ⟨v, F', rfl, ht5, hs5, ho5⟩
        have hg5 : (F' q).ep = gr := by rw [(hs5 q).1]; exact HGR.out
        have hf5 : ∀ r, r < 16 → 0 ≤ (F' r).ep ∧ (F' r).ep ≤ (k + 1 : Nat) ∧ (F' r).rn = 0 := fun r hr => by have := HF.out r hr; have h2 := hs5 r; omega
        have hbx5 := hbx.upd ho5 (fun e => hne e.symm)
        obtain ⟨-, -, -, -, kN, -⟩ := hbx5.c7
        have hb5 : Below w.heap.size w w5 := hba.trans (ho5.to_below (by simp; omega) (fun i hi e => by omega))
        have HT5 := Lib.hid ht5
        have HG5 := Lib.hid hg5
        have HF5 := Lib.hid hf5
        have hB5 := hBg
        clear ht5 hg5 hf5 hs5 ho5 hbx5 hbx
        go_wp2_with fail
        refine (epoch_any _ _ _ _ hq0 hq1 HT5.out).mono ?_
        rintro e w6 ⟨rfl, rfl⟩
        rw [Int.toNat_natCast, HG5.out]
        have hgs : (gr:Int) ≤ 81 := by have := (HF5.out q (by omega)).2.1; rw [HG5.out] at this; omega
        go_wp2_with fail
        go_loop [11, 12] (fun kv ev => ∃ kk : Int, (gr:Int) - 3 ≤ kk ∧ kk ≤ (gr:Int) + 2 ∧ kv = .int .i64 kk) (fun kv _ => ((gr:Int) + 2 - intOf kv).toNat)
        case atStart => exact ⟨_, by omega, by omega, rfl⟩
        case round =>
          obtain ⟨kk, hk0, hk1, rfl⟩ := hrel
          by_cases hend : kk < (gr:Int) + 2
          · by_cases hz : gr = 0
            · try (exfalso; omega)
              all_goals
                have hv := chk_none (e := kk) (now := now) (by rw [HG5.out]; omega)
                have HV := Lib.hid hv
                have hg0 : ((gr:Int) == 0) = true := by rw [beq_iff_eq]; omega
                have hg1 : ¬ (0 : Int) < (gr:Int) := by omega
                clear hv hz
                by_cases hkk : kk = (gr:Int)
                · have hb1 : (kk == (gr:Int)) = true := beq_iff_eq.2 hkk
                  have hb2 : (kk != (gr:Int)) = false := by rw [hkk]; simp
                  clear hkk
                  go_wp2_with fail
                  refine (check_any _ _ _ _ _ _ hq0 hq1 HT5.out).mono ?_
                  rintro e w7 ⟨rfl, rfl⟩
                  rw [Int.toNat_natCast, HV.out]
                  go_wp2_with fail
                  go_round
                  case rel => exact ⟨kk + 1, by omega, by omega, rfl⟩
                  case measure => simp [intOf]; omega
                · have hb1 : (kk == (gr:Int)) = false := beq_eq_false_iff_ne.2 hkk
                  have hb2 : (kk != (gr:Int)) = true := by rw [bne_iff_ne]; exact hkk
                  clear hkk
                  go_wp2_with fail
                  refine (check_any _ _ _ _ _ _ hq0 hq1 HT5.out).mono ?_
                  rintro e w7 ⟨rfl, rfl⟩
                  rw [Int.toNat_natCast, HV.out]
                  go_wp2_with fail
                  go_round
                  case rel => exact ⟨kk + 1, by omega, by omega, rfl⟩
                  case measure => simp [intOf]; omega
            · have hg0 : ((gr:Int) == 0) = false := by rw [beq_eq_false_iff_ne]; omega
              have hg1 : (0 : Int) < (gr:Int) := by omega
              clear hz
              by_cases hkk : kk = (gr:Int)
              · have hb1 : (kk == (gr:Int)) = true := beq_iff_eq.2 hkk
                have hb2 : (kk != (gr:Int)) = false := by rw [hkk]; simp
                have hv := chk_same (now := now) HG5.out (by omega)
                rw [← hkk] at hv
                clear hkk
                rcases hv with hv | hv
                all_goals
                  have HV := Lib.hid hv
                  clear hv
                  go_wp2_with fail
                  refine (check_any _ _ _ _ _ _ hq0 hq1 HT5.out).mono ?_
                  rintro e w7 ⟨rfl, rfl⟩
                  rw [Int.toNat_natCast, HV.out]
                  go_wp2_with fail
                  go_round
                  case rel => exact ⟨kk + 1, by omega, by omega, rfl⟩
                  case measure => simp [intOf]; omega
              · have hv := chk_other (now := now) HG5.out (by omega) hkk
                have hb1 : (kk == (gr:Int)) = false := beq_eq_false_iff_ne.2 hkk
                have hb2 : (kk != (gr:Int)) = true := by rw [bne_iff_ne]; exact hkk
                have HV := Lib.hid hv
                clear hv hkk
                go_wp2_with fail
                refine (check_any _ _ _ _ _ _ hq0 hq1 HT5.out).mono ?_
                rintro e w7 ⟨rfl, rfl⟩
                rw [Int.toNat_natCast, HV.out]
                go_wp2_with fail
                go_round
                case rel => exact ⟨kk + 1, by omega, by omega, rfl⟩
                case measure => simp [intOf]; omega
          · go_wp2_with fail
            go_roundw
            case rel => exact ⟨k + 1, g, gr, by go_num, by omega, by omega, rfl, by first | rfl | go_num, ⟨hB5, _, HT5.out, HG5.out, HF5.out⟩, hb5⟩
            case measure => simp [intOf]; omega
      · have e1 : (kd == 1) = false := beq_eq_false_iff_ne.2 k1
        have e6 : (kd == 6) = false := beq_eq_false_iff_ne.2 k6
        have e3 : (kd == 3) = false := beq_eq_false_iff_ne.2 k3
        have e4 : (kd == 4) = false := beq_eq_false_iff_ne.2 k4
        obtain ⟨-, -, -, -, kN, -⟩ := hbx.c7
        have hf5 : ∀ r, r < 16 → 0 ≤ (F r).ep ∧ (F r).ep ≤ (k + 1 : Nat) ∧ (F r).rn = 0 := fun r hr => by have := HF.out r hr; omega
        have hb5 := hba
        have HT5 := HTA
        have HG5 := HGR
        have HF5 := Lib.hid hf5
        have hB5 := hBg
        clear hf5 hbx k1 k3 k4 k6
        go_wp2_with fail
        refine (epoch_any _ _ _ _ hq0 hq1 HT5.out).mono ?_
        rintro e w6 ⟨rfl, rfl⟩
        rw [Int.toNat_natCast, HG5.out]
        have hgs : (gr:Int) ≤ 81 := by have := (HF5.out q (by omega)).2.1; rw [HG5.out] at this; omega
        go_wp2_with fail
        go_loop [11, 12] (fun kv ev => ∃ kk : Int, (gr:Int) - 3 ≤ kk ∧ kk ≤ (gr:Int) + 2 ∧ kv = .int .i64 kk) (fun kv _ => ((gr:Int) + 2 - intOf kv).toNat)
        case atStart => exact ⟨_, by omega, by omega, rfl⟩
        case round =>
          obtain ⟨kk, hk0, hk1, rfl⟩ := hrel
          by_cases hend : kk < (gr:Int) + 2
          · by_cases hz : gr = 0
            · try (exfalso; omega)
              all_goals
                have hv := chk_none (e := kk) (now := now) (by rw [HG5.out]; omega)
                have HV := Lib.hid hv
                have hg0 : ((gr:Int) == 0) = true := by rw [beq_iff_eq]; omega
                have hg1 : ¬ (0 : Int) < (gr:Int) := by omega
                clear hv hz
                by_cases hkk : kk = (gr:Int)
                · have hb1 : (kk == (gr:Int)) = true := beq_iff_eq.2 hkk
                  have hb2 : (kk != (gr:Int)) = false := by rw [hkk]; simp
                  clear hkk
                  go_wp2_with fail
                  refine (check_any _ _ _ _ _ _ hq0 hq1 HT5.out).mono ?_
                  rintro e w7 ⟨rfl, rfl⟩
                  rw [Int.toNat_natCast, HV.out]
                  go_wp2_with fail
                  go_round
                  case rel => exact ⟨kk + 1, by omega, by omega, rfl⟩
                  case measure => simp [intOf]; omega
                · have hb1 : (kk == (gr:Int)) = false := beq_eq_false_iff_ne.2 hkk
                  have hb2 : (kk != (gr:Int)) = true := by rw [bne_iff_ne]; exact hkk
                  clear hkk
                  go_wp2_with fail
                  refine (check_any _ _ _ _ _ _ hq0 hq1 HT5.out).mono ?_
                  rintro e w7 ⟨rfl, rfl⟩
                  rw [Int.toNat_natCast, HV.out]
                  go_wp2_with fail
                  go_round
                  case rel => exact ⟨kk + 1, by omega, by omega, rfl⟩
                  case measure => simp [intOf]; omega
            · have hg0 : ((gr:Int) == 0) = false := by rw [beq_eq_false_iff_ne]; omega
              have hg1 : (0 : Int) < (gr:Int) := by omega
              clear hz
              by_cases hkk : kk = (gr:Int)
              · have hb1 : (kk == (gr:Int)) = true := beq_iff_eq.2 hkk
                have hb2 : (kk != (gr:Int)) = false := by rw [hkk]; simp
                have hv := chk_same (now := now) HG5.out (by omega)
                rw [← hkk] at hv
                clear hkk
                rcases hv with hv | hv
                all_goals
                  have HV := Lib.hid hv
                  clear hv
                  go_wp2_with fail
                  refine (check_any _ _ _ _ _ _ hq0 hq1 HT5.out).mono ?_
                  rintro e w7 ⟨rfl, rfl⟩
                  rw [Int.toNat_natCast, HV.out]
                  go_wp2_with fail
                  go_round
                  case rel => exact ⟨kk + 1, by omega, by omega, rfl⟩
                  case measure => simp [intOf]; omega
              · have hv := chk_other (now := now) HG5.out (by omega) hkk
                have hb1 : (kk == (gr:Int)) = false := beq_eq_false_iff_ne.2 hkk
                have hb2 : (kk != (gr:Int)) = true := by rw [bne_iff_ne]; exact hkk
                have HV := Lib.hid hv
                clear hv hkk
                go_wp2_with fail
                refine (check_any _ _ _ _ _ _ hq0 hq1 HT5.out).mono ?_
                rintro e w7 ⟨rfl, rfl⟩
                rw [Int.toNat_natCast, HV.out]
                go_wp2_with fail
                go_round
                case rel => exact ⟨kk + 1, by omega, by omega, rfl⟩
                case measure => simp [intOf]; omega
          · go_wp2_with fail
            go_roundw
            case rel => exact ⟨k + 1, g, gr, by go_num, by omega, by omega, rfl, by first | rfl | go_num, ⟨hB5, _, HT5.out, HG5.out, HF5.out⟩, hb5⟩
            case measure => simp [intOf]; omega
    · have hor : ¬ (k : Int) < n ∨ ((k : Int) < n ∧ ¬ (k : Int) < 80) := by omega
      clear hboth
      rcases hor with h1 | ⟨h1, h2⟩
      all_goals
        go_wp2_with fail
        go_ret
        exact ⟨rfl, hbr⟩
theorem cells_op : Try.prog.cellsOf 37 = 7 := by kernel_rfl
theorem cells_route : Try.prog.cellsOf 35 = 2 := by kernel_rfl
theorem cells_int' : Try.prog.cellsOf 3 = 1 := by kernel_rfl
theorem cells_ints : Try.prog.cellsOf 22 = 1 := by kernel_rfl

theorem script_of (w : World) (a : Addr) (len cap : Nat) (hl : len ≤ cap)
    (hc : ∀ i, i < cap → ∃ m cs', cs'.length = Try.prog.cellsOf 37 ∧ (∀ j, j < Try.prog.cellsOf 37 → w.cell? ((a.add (i * Try.prog.cellsOf 37)).add j) = cs'[j]?) ∧ Cel Try.prog w m 37 cs') : ScriptAt w (some a) len := by
  intro k hk
  rw [cells_op] at hc
  obtain ⟨m, cs, h1, h2, h3⟩ := hc k (by omega)
  obtain ⟨b, off, spot⟩ := a
  have hspot : spot = none := by
    obtain ⟨_, cs0, h4, h5, _⟩ := hc 0 (by omega)
    have := h5 0 (by omega)
    rw [List.getElem?_eq_getElem (by omega)] at this
    simpa [Addr.add] using World.cell?_spot this
  subst hspot
  match cs, h1 with
  | [v0, v1, v2, v3, v4, v5, v6], _ =>
    obtain ⟨_, m1, h4⟩ := cel_struct Try.underlying37 h3
    simp only [List.forall_mem_cons, cells_int', cells_route, List.drop_succ_cons, List.drop_zero, List.take_succ_cons, List.take_zero] at h4
    obtain ⟨f0, f1, f2, f3, f4, f5, _⟩ := h4
    obtain ⟨x0, e0, _⟩ := cel_int Try.underlying3 f0
    obtain ⟨x1, e1, _⟩ := cel_int Try.underlying3 f1
    obtain ⟨x2, e2, _⟩ := cel_int Try.underlying3 f2
    obtain ⟨x3, e3, _⟩ := cel_int Try.underlying3 f3
    obtain ⟨x4, e4, w4⟩ := cel_int Try.underlying3 f4
    obtain ⟨_, m2, h5⟩ := cel_struct Try.underlying35 f5
    simp only [List.forall_mem_cons, cells_int', cells_ints, List.drop_succ_cons, List.drop_zero, List.take_succ_cons, List.take_zero] at h5
    obtain ⟨f6, f7, _⟩ := h5
    obtain ⟨x5, e5, _⟩ := cel_int Try.underlying3 f6
    have e6 : ∃ A n c, v6 = .slice A n c := by
      rcases cel_slice Try.underlying22 f7 with h | ⟨a, n, c, h, _⟩
      · exact ⟨_, _, _, by simpa using h⟩
      · exact ⟨_, _, _, by simpa using h⟩
    obtain ⟨A6, n6, c6, rfl⟩ := e6
    simp only [List.cons.injEq, and_true] at e0 e1 e2 e3 e4 e5
    subst e0 e1 e2 e3 e4 e5
    have g : ∀ j (hj : j < 7), w.cell? ⟨b, off + k * 7 + j, none⟩ = ([.int .i64 x0, .int .i64 x1, .int .i64 x2, .int .i64 x3, .int .i64 x4, .int .i64 x5, .slice A6 n6 c6] : List Value)[j]? := by
      intro j hj
      rw [← h2 j hj, add_of_add]
      unfold Addr.add
      split
      · rw [show k * 7 = 0 by omega, show j = 0 by omega]
        simp
      · simp [Nat.add_assoc]
    refine ⟨b, off, ⟨x0, x1, x2, x3, x4, x5, A6, n6, c6⟩, rfl, ?_, ?_, g 0 (by omega), g 1 (by omega), g 2 (by omega), g 3 (by omega), g 4 (by omega), g 5 (by omega), g 6 (by omega)⟩
    · exact block_lt_of_cell (g 0 (by omega))
    · simp [Lit.wf] at w4
      exact w4.1

theorem fences_vals (W : World) (args : Array Value) (hv : Vals Try.prog W [33, 3] args.toList) :
    Calls Try.prog 4 args W fun e W' => e = .returned (.bool true) ∧ Below W.heap.size W W' := by
  obtain ⟨v0, r0, e0, h0, v1, r1, rfl, h1, rfl⟩ := hv
  obtain rfl : args = #[v0, v1] := by cases args; simp_all
  obtain ⟨x1, rfl, _⟩ := val_int Try.underlying3 h1
  rcases val_slice Try.underlying33 h0 with rfl | ⟨a, len, cap, rfl, hl, hm, _, hc⟩
  · exact fences_walk _ _ _ _ _ (Nat.zero_le _) (fun k hk => absurd hk (Nat.not_lt_zero _))
  · exact fences_walk _ _ _ _ _ (by omega) (script_of W a len cap hl hc)

set_option maxRecDepth 100000 in
theorem fences_lifted (os : Os) (started : os.Started) (H : Type) (enc : TypeId × Value → H) :
    ReturnsInHanded {} Try.checked os 4 .any (Rows.sessionFencesSpec.pre6 enc Try.prog Try.f4 Rows.sessionFencesRow.domain false) (Rows.sessionFencesSpec.post enc Try.prog Try.f4 false true false false) :=
  lift_law (C := Try.checked) #[33, 3] (by kernel_rfl) (by kernel_rfl) started (by kernel_rfl) Try.func4
    (ChangeSpec.witness6 (enc := enc) (C := Try.checked) false ⟨#[], #[.slice none 0 0, .int .i64 0], []⟩ 8 (by kernel_rfl) (by kernel_rfl) (by kernel_rfl) (by kernel_rfl))
    Try.params4 (by kernel_rfl) rfl rfl Try.underlying4 (fun ds hl => match ds, hl with | [_, _], _ => rfl) (fun W args hv => fences_vals W args hv)

theorem fences_holds : Rows.SessionFencesSaid :=
  OpenClaim.holds_of_wide 4 Try.f4 rfl rfl rfl rfl rfl rfl rfl ⟨rfl, rfl, rfl, rfl, rfl⟩ rfl rfl rfl rfl rfl (by kernel_rfl) Try.func4 (by kernel_rfl)
    (of_decide_eq_true (by kernel_rfl)) (by unfold Func.isWrapper; rw [if_neg (of_decide_eq_false (by kernel_rfl))]; exact ⟨rfl, rfl⟩)
    (fun os started H enc _ => fences_lifted os started H enc)

end Go.Proofs.Ytgkibmdkhldnpaa
