/- law: FrameBursts -/
import Derived.Test.YtcdaioljddaopaaFrmO
import Derived.Test.YtcdaioljddaopaaFrmR
import Derived.Test.YtcdaioljddaopaaFrmV
import Derived.Test.YtcdaioljddaopaaLibK
import Derived.StillTailTactics
namespace Go.Proofs.Ytcdaioljddaopaa
open Go.RowKit

theorem xor_id {x t : UInt8} : x ^^^ t = x ↔ t = 0 := by
  constructor
  · intro h
    have : x ^^^ (x ^^^ t) = x ^^^ x := by rw [h]
    simpa [← UInt8.xor_assoc] using this
  · rintro rfl
    simp
theorem set_mid (P : List UInt8) (x y : UInt8) (Q : List UInt8) : (P ++ x :: Q).set P.length y = P ++ y :: Q := by
  rw [List.set_append_right _ _ (Nat.le_refl _), Nat.sub_self]; rfl
/-- One byte more of the window. -/
theorem turn_step {b ys : List UInt8} {a i : Nat} (t : UInt8) (hy : ys.length = i) (hl : a + i < b.length) :
    (b.take a ++ ys ++ b.drop (a + i)).set (a + i) (b.getD (a + i) 0 ^^^ t) = b.take a ++ (ys ++ [b.getD (a + i) 0 ^^^ t]) ++ b.drop (a + (i + 1)) := by
  rw [List.drop_eq_getElem_cons hl]
  have e : (b.take a ++ ys).length = a + i := by rw [List.length_append, List.length_take]; omega
  have := set_mid (b.take a ++ ys) b[a + i] (b.getD (a + i) 0 ^^^ t) (b.drop (a + i + 1))
  rw [e] at this
  rw [this, Nat.add_assoc]
  simp
theorem turn_get {b ys : List UInt8} {a i : Nat} (hy : ys.length = i) (hl : a + i < b.length) : (b.take a ++ ys ++ b.drop (a + i))[a + i]? = some (b.getD (a + i) 0) := by
  have e : (b.take a ++ ys).length = a + i := by rw [List.length_append, List.length_take]; omega
  rw [List.getElem?_append_right (by omega), e, Nat.sub_self, List.getElem?_drop, Nat.add_zero, List.getElem?_eq_getElem hl, List.getD_eq_getElem?_getD, List.getElem?_eq_getElem hl]
  rfl
theorem turn_chg {b ys : List UInt8} {a i : Nat} (t : UInt8) (hl : a + i < b.length) :
    decide (ys ++ [b.getD (a + i) 0 ^^^ t] ≠ (b.drop a).take (i + 1)) = (decide (ys ≠ (b.drop a).take i) || ((t.toNat : Int) != 0)) := by
  have e : (b.drop a).take (i + 1) = (b.drop a).take i ++ [b.getD (a + i) 0] := by
    rw [List.take_add_one, List.getElem?_drop, List.getElem?_eq_getElem hl, List.getD_eq_getElem?_getD, List.getElem?_eq_getElem hl]
    rfl
  rw [e, Bool.eq_iff_iff]
  simp only [ne_eq, decide_eq_true_eq, Bool.or_eq_true, bne_iff_ne]
  have hz : (t.toNat : Int) = 0 ↔ t = 0 := by
    constructor
    · intro h
      exact UInt8.toNat.inj (by simpa using h)
    · rintro rfl; rfl
  rw [hz]
  constructor
  · intro h
    by_cases h1 : ys = (b.drop a).take i
    · right
      rintro rfl
      exact h (by rw [h1]; simp)
    · exact .inl h1
  · intro h h2
    have h3 := List.append_inj' h2 rfl
    have h4 : b.getD (a + i) 0 ^^^ t = b.getD (a + i) 0 := by simpa using h3.2
    rcases h with h | h
    · exact h h3.1
    · exact h (xor_id.1 h4)
theorem u8s_set (l : List UInt8) (k : Nat) (x : UInt8) : (u8s l).set k (.int .u8 x.toNat) = u8s (l.set k x) := by simp [u8s, List.map_set]



set_option maxRecDepth 100000 in
set_option maxHeartbeats 4000000 in
theorem bursts_walk (A : Option Addr) (n c : Nat) (l : List UInt8) (x : Int) (t0 t1 t2 t3 : UInt8) (w : World) (hx : Reads w w.heap.size 1 A n (u8s l)) (hn : n ≤ c) (hc : c ≤ 140737488351232) (hx0 : -9223372036854775808 ≤ x) (hx1 : x ≤ 9223372036854775807) :
    Calls Try.prog 7 #[.slice A n c, .int .i64 x, .agg #[.int .u8 t0.toNat, .int .u8 t1.toNat, .int .u8 t2.toNat, .int .u8 t3.toNat]] w fun e w' => e = .returned (.bool true) ∧ Below w.heap.size w w' := by
  have hlen := hx.len_
  have HT := Lib.hid (Blk.new w 43 #[.int .u8 t0.toNat, .int .u8 t1.toNat, .int .u8 t2.toNat, .int .u8 t3.toNat])
  have HK := Lib.hid (((Keeps.start w).and (hx.keeps (Nat.le_refl _))).alloc (.cells #[.int .u8 t0.toNat, .int .u8 t1.toNat, .int .u8 t2.toNat, .int .u8 t3.toNat] 43))
  clear hx
  go_enter Try.func7, Try.ntmps7
  go_wp2_with fail
  refine (awake_any _).mono ?_
  rintro e w1 ⟨rfl, hb⟩
  have HK1 := Lib.hid ((HK.out.and HT.out.keeps).on hb)
  clear HK hb
  by_cases hlong : (4096 : Int) < n
  · go_wp2_with fail
    refine (awake_any _).mono ?_
    rintro e w2 ⟨rfl, hb⟩
    go_wp2_with fail
    go_ret
    exact ⟨rfl, (HK1.out.on hb).now.1.1⟩
  · go_wp2_with fail
    refine (refSeal_any A n c l w1 HK1.out.now.1.2 (by omega)).mono ?_
    rintro e w2 ⟨A2, c2, rfl, ho, hb⟩
    have hsl := sealL_length l
    have hul := uintL_len64 (n := l.length) (by omega)
    have hle := ho.le
    have hcl := ho.capLe
    obtain ⟨g, hA, hg1, hg2, -, -⟩ := ho.some_ (by omega)
    subst hA
    have HO := Lib.hid ho
    have HB2 := Lib.hid hb
    have htu : takeU (sealL l) = (n, (uintL l.length).length) := by
      rw [sealL, List.append_assoc, takeU_uintL _ (by omega) _, hlen]
    have hpl := fun a i ys => burst_plain l (by omega) a i ys
    clear hb ho
    generalize sealL l = b at *
    generalize (uintL l.length).length = H at *
    obtain ⟨N, hN⟩ : ∃ N, N = b.length := ⟨_, rfl⟩
    rw [← hN] at HO hle hsl ⊢
    have hH : H + 4 ≤ N := by omega
    have hN2 : N ≤ 5000 := by omega
    have HP := Lib.hid hpl
    have HTU := Lib.hid htu
    have HN := Lib.hid hN
    clear hpl htu hN hsl
    go_wp2_with fail
    refine (refTakeUint_any _ N c2 b w2 HO.out.reads hle hcl).mono ?_
    rintro e w3 ⟨rfl, hb⟩
    rw [HTU.out]
    dsimp only
    have HO3 := Lib.hid (HO.out.below hb (Nat.le_refl _))
    have HB3 := Lib.hid (HB2.out.trans (hb.mono HB2.out.size))
    have HG := Lib.hid hg1
    clear hb HO HB2 hg1 hg2 HTU
    obtain ⟨v, hv, hv0, hv1, -⟩ := umod x ((N : Int) - H) (by omega) (by omega)
    obtain ⟨v, rfl⟩ := Int.eq_ofNat_of_zero_le hv0
    obtain ⟨a, ha⟩ : ∃ a, a = H + v := ⟨_, rfl⟩
    have hav : (H : Int) + (v : Int) = (a : Int) := by omega
    have haN : a < N := by omega
    have haH : H ≤ a := by omega
    clear ha
    by_cases hsum : a < H + 4
    · obtain ⟨E, hE⟩ : ∃ E, E = H + 4 := ⟨_, rfl⟩
      have hE' : (H : Int) + 4 = (E : Int) := by omega
      have haE : (a : Int) < (E : Int) := by omega
      have hEN : E ≤ N := by omega
      have hEs : a < H + 4 → E ≤ H + 4 := by omega
      have HES := Lib.hid hEs
      clear hE hsum hEs
      go_wp2_with fail
      try simp only [hv]
      clear hv hv0 hv1
      go_loopw [10, 12] (fun cv iv wr => ∃ (i : Nat) (ys : List UInt8), iv = .int .i64 i ∧ i ≤ 4 ∧ ys.length = i ∧ a + i ≤ E ∧ cv = .bool (decide (ys ≠ (b.drop a).take i)) ∧ Own wr w1.heap.size 5 1 (some ⟨g, 0, none⟩) N c2 (u8s (b.take a ++ ys ++ b.drop (a + i))) ∧ Below w1.heap.size w1 wr) (fun _ iv _ => 4 - (intOf iv).toNat)
      case atStart => exact ⟨0, [], rfl, by omega, rfl, by omega, by simp, by simpa using HO3.out, HB3.out⟩
      case round =>
        obtain ⟨i, ys, rfl, hi, hy, haiE, hcb, ho, hb⟩ := hrel
        obtain ⟨cb, hcb2⟩ : ∃ cb, cb = decide (ys ≠ (b.drop a).take i) := ⟨_, rfl⟩
        rw [← hcb2] at hcb
        subst hcb
        have HCB := Lib.hid hcb2
        have HY := Lib.hid hy
        have HO := Lib.hid ho
        have HB := Lib.hid hb
        clear hcb2 hy ho hb
        obtain ⟨j, hj⟩ : ∃ j, j = a + i := ⟨_, rfl⟩
        have hji : (a : Int) + (i : Int) = (j : Int) := by omega
        have HJ := Lib.hid hj
        have hjE : j ≤ E := by omega
        clear hj haiE
        by_cases hi4 : (i : Int) < 4
        · by_cases hjlt : (j : Int) < (E : Int)
          · have hblk := (HK1.out.at_ HB.out).2.cell i
            have hlb : a + i < b.length := by have := HJ.out; have := HN.out; omega
            obtain ⟨t, ht, htc⟩ : ∃ t : UInt8, wr.cell? ⟨w.heap.size, i, none⟩ = some (.int .u8 t.toNat) ∧ True := by
              rw [hblk]
              have : i = 0 ∨ i = 1 ∨ i = 2 ∨ i = 3 := by omega
              rcases this with rfl | rfl | rfl | rfl
              · exact ⟨t0, rfl, trivial⟩
              · exact ⟨t1, rfl, trivial⟩
              · exact ⟨t2, rfl, trivial⟩
              · exact ⟨t3, rfl, trivial⟩
            have hget := turn_get (b := b) (ys := ys) (a := a) HY.out hlb
            have hset := turn_step (b := b) (ys := ys) (a := a) t HY.out hlb
            have hchg := turn_chg (b := b) (ys := ys) (a := a) t hlb
            obtain ⟨y, hyy⟩ : ∃ y, y = b.getD (a + i) 0 := ⟨_, rfl⟩
            rw [← hyy] at hget hset hchg
            rw [← HJ.out] at hget hset
            have hcell := HO.out.cell rfl (j := j) (u := .int .u8 y.toNat) (by rw [u8s_get, ← HJ.out, hget]; rfl)
            have hfz := HO.out.frozen rfl j
            have hO2 := HO.out.set_ (i := j) rfl (.int .u8 (y ^^^ t).toNat)
            rw [u8s_set, ← HJ.out, hset] at hO2
            have hxor := u8_xor_nat y.toNat t.toNat y.toNat_lt t.toNat_lt
            rw [← UInt8.toNat_xor] at hxor
            have HO2 := Lib.hid hO2
            have HCH := Lib.hid hchg
            have HYY := Lib.hid hyy
            clear hget hset hchg hO2 hyy hblk htc
            have hjN : (j : Int) < (N : Int) := by omega
            have hjw : IntKind.i64.wrap (j : Int) = (j : Int) := IntWalk.i64_in _ (by omega)
            have hj0 : (0 : Int) ≤ (j : Int) := by omega
            have hi0 : (0 : Int) ≤ (i : Int) := by omega
            go_wp2_with fail
            go_still_tail 11, (by kernel_rfl)
            change wpList _ _ _ _ _ wr.drew
            have hlt := (HK1.out.now.2).lt
            have hne : ¬ g = w.heap.size := by have := HG.out; omega
            have hne2 : ¬ w.heap.size = g := by omega
            clear hlt
            have hb4 := (HB.out.setCell (p := ⟨g, j, none⟩) HG.out (.int .u8 (y ^^^ t).toNat)).drew
            have HB4 := Lib.hid hb4
            clear hb4
            cases cb
            · have hc2 : ((t.toNat : Int) != 0) = decide (ys ++ [y ^^^ t] ≠ List.take (i + 1) (List.drop a b)) := by rw [HCH.out, ← HCB.out, Bool.false_or]
              have HC2 := Lib.hid hc2
              clear hc2
              go_wp2_with fail
              go_roundw
              case rel => exact ⟨i + 1, ys ++ [y ^^^ t], by simp, by omega, by simp [HY.out], by have := HJ.out; omega, by rw [HC2.out], HO2.out.drew, HB4.out⟩
              case measure => simp [intOf]; omega
            · have hc2 : true = decide (ys ++ [y ^^^ t] ≠ List.take (i + 1) (List.drop a b)) := by rw [HCH.out, ← HCB.out, Bool.true_or]
              have HC2 := Lib.hid hc2
              clear hc2
              go_wp2_with fail
              go_roundw
              case rel => exact ⟨i + 1, ys ++ [y ^^^ t], by simp, by omega, by simp [HY.out], by have := HJ.out; omega, by rw [HC2.out], HO2.out.drew, HB4.out⟩
              case measure => simp [intOf]; omega
          · skip
            have hpl := HP.out a i ys haH (by have := HJ.out; have := HN.out; omega) (by have := HES.out; have := HJ.out; omega) hi HY.out
            have HPL := Lib.hid hpl
            clear hpl
            go_wp2_with fail
            refine (take_any _ N c2 _ wr (HO.out.reads) hle hcl).mono ?_
            rw [HPL.out]
            have hcc := HCB.out
            have hb0 := (HK1.out.at_ HB.out).1
            have HK4 := Lib.hid ((HK1.out.on HB.out))
            clear hb0
            cases cb
            · have heq : ys = (b.drop a).take i := by simpa using hcc.symm
              rw [if_pos heq]
              clear hcc heq
              rintro e w5 ⟨⟨A5, c5, rfl, ho⟩, hb⟩
              have HK5 := Lib.hid ((HK4.out.on hb).and ho.keepsR)
              clear ho hb
              have ks := str_u8 (c := c5) HK5.out.now.2
              rw [hlen] at ks
              have ks2 := str_u8 (c := c) HK5.out.now.1.1.2
              go_wp2_with fail
              go_ret
              exact ⟨rfl, HK5.out.now.1.1.1⟩
            · have heq : ¬ ys = (b.drop a).take i := by simpa using hcc.symm
              rw [if_neg heq]
              clear hcc heq
              rintro e w5 ⟨rfl, hb⟩
              have HK5 := Lib.hid (HK4.out.on hb)
              clear hb
              go_wp2_with fail
              go_ret
              exact ⟨rfl, HK5.out.now.1.1⟩
        · skip
          have hpl := HP.out a i ys haH (by have := HJ.out; have := HN.out; omega) (by have := HES.out; have := HJ.out; omega) hi HY.out
          have HPL := Lib.hid hpl
          clear hpl
          go_wp2_with fail
          refine (take_any _ N c2 _ wr (HO.out.reads) hle hcl).mono ?_
          rw [HPL.out]
          have hcc := HCB.out
          have hb0 := (HK1.out.at_ HB.out).1
          have HK4 := Lib.hid ((HK1.out.on HB.out))
          clear hb0
          cases cb
          · have heq : ys = (b.drop a).take i := by simpa using hcc.symm
            rw [if_pos heq]
            clear hcc heq
            rintro e w5 ⟨⟨A5, c5, rfl, ho⟩, hb⟩
            have HK5 := Lib.hid ((HK4.out.on hb).and ho.keepsR)
            clear ho hb
            have ks := str_u8 (c := c5) HK5.out.now.2
            rw [hlen] at ks
            have ks2 := str_u8 (c := c) HK5.out.now.1.1.2
            go_wp2_with fail
            go_ret
            exact ⟨rfl, HK5.out.now.1.1.1⟩
          · have heq : ¬ ys = (b.drop a).take i := by simpa using hcc.symm
            rw [if_neg heq]
            clear hcc heq
            rintro e w5 ⟨rfl, hb⟩
            have HK5 := Lib.hid (HK4.out.on hb)
            clear hb
            go_wp2_with fail
            go_ret
            exact ⟨rfl, HK5.out.now.1.1⟩
    · have haE : ¬ (a : Int) < (H : Int) + 4 := by omega
      have hEN : N ≤ N := by omega
      have hEs : a < H + 4 → N ≤ H + 4 := by omega
      have HES := Lib.hid hEs
      clear hsum hEs
      go_wp2_with fail
      try simp only [hv]
      clear hv hv0 hv1
      go_loopw [10, 12] (fun cv iv wr => ∃ (i : Nat) (ys : List UInt8), iv = .int .i64 i ∧ i ≤ 4 ∧ ys.length = i ∧ a + i ≤ N ∧ cv = .bool (decide (ys ≠ (b.drop a).take i)) ∧ Own wr w1.heap.size 5 1 (some ⟨g, 0, none⟩) N c2 (u8s (b.take a ++ ys ++ b.drop (a + i))) ∧ Below w1.heap.size w1 wr) (fun _ iv _ => 4 - (intOf iv).toNat)
      case atStart => exact ⟨0, [], rfl, by omega, rfl, by omega, by simp, by simpa using HO3.out, HB3.out⟩
      case round =>
        obtain ⟨i, ys, rfl, hi, hy, haiE, hcb, ho, hb⟩ := hrel
        obtain ⟨cb, hcb2⟩ : ∃ cb, cb = decide (ys ≠ (b.drop a).take i) := ⟨_, rfl⟩
        rw [← hcb2] at hcb
        subst hcb
        have HCB := Lib.hid hcb2
        have HY := Lib.hid hy
        have HO := Lib.hid ho
        have HB := Lib.hid hb
        clear hcb2 hy ho hb
        obtain ⟨j, hj⟩ : ∃ j, j = a + i := ⟨_, rfl⟩
        have hji : (a : Int) + (i : Int) = (j : Int) := by omega
        have HJ := Lib.hid hj
        have hjE : j ≤ N := by omega
        clear hj haiE
        by_cases hi4 : (i : Int) < 4
        · by_cases hjlt : (j : Int) < (N : Int)
          · have hblk := (HK1.out.at_ HB.out).2.cell i
            have hlb : a + i < b.length := by have := HJ.out; have := HN.out; omega
            obtain ⟨t, ht, htc⟩ : ∃ t : UInt8, wr.cell? ⟨w.heap.size, i, none⟩ = some (.int .u8 t.toNat) ∧ True := by
              rw [hblk]
              have : i = 0 ∨ i = 1 ∨ i = 2 ∨ i = 3 := by omega
              rcases this with rfl | rfl | rfl | rfl
              · exact ⟨t0, rfl, trivial⟩
              · exact ⟨t1, rfl, trivial⟩
              · exact ⟨t2, rfl, trivial⟩
              · exact ⟨t3, rfl, trivial⟩
            have hget := turn_get (b := b) (ys := ys) (a := a) HY.out hlb
            have hset := turn_step (b := b) (ys := ys) (a := a) t HY.out hlb
            have hchg := turn_chg (b := b) (ys := ys) (a := a) t hlb
            obtain ⟨y, hyy⟩ : ∃ y, y = b.getD (a + i) 0 := ⟨_, rfl⟩
            rw [← hyy] at hget hset hchg
            rw [← HJ.out] at hget hset
            have hcell := HO.out.cell rfl (j := j) (u := .int .u8 y.toNat) (by rw [u8s_get, ← HJ.out, hget]; rfl)
            have hfz := HO.out.frozen rfl j
            have hO2 := HO.out.set_ (i := j) rfl (.int .u8 (y ^^^ t).toNat)
            rw [u8s_set, ← HJ.out, hset] at hO2
            have hxor := u8_xor_nat y.toNat t.toNat y.toNat_lt t.toNat_lt
            rw [← UInt8.toNat_xor] at hxor
            have HO2 := Lib.hid hO2
            have HCH := Lib.hid hchg
            have HYY := Lib.hid hyy
            clear hget hset hchg hO2 hyy hblk htc
            have hjN : (j : Int) < (N : Int) := by omega
            have hjw : IntKind.i64.wrap (j : Int) = (j : Int) := IntWalk.i64_in _ (by omega)
            have hj0 : (0 : Int) ≤ (j : Int) := by omega
            have hi0 : (0 : Int) ≤ (i : Int) := by omega
            go_wp2_with fail
            go_still_tail 11, (by kernel_rfl)
            change wpList _ _ _ _ _ wr.drew
            have hlt := (HK1.out.now.2).lt
            have hne : ¬ g = w.heap.size := by have := HG.out; omega
            have hne2 : ¬ w.heap.size = g := by omega
            clear hlt
            have hb4 := (HB.out.setCell (p := ⟨g, j, none⟩) HG.out (.int .u8 (y ^^^ t).toNat)).drew
            have HB4 := Lib.hid hb4
            clear hb4
            cases cb
            · have hc2 : ((t.toNat : Int) != 0) = decide (ys ++ [y ^^^ t] ≠ List.take (i + 1) (List.drop a b)) := by rw [HCH.out, ← HCB.out, Bool.false_or]
              have HC2 := Lib.hid hc2
              clear hc2
              go_wp2_with fail
              go_roundw
              case rel => exact ⟨i + 1, ys ++ [y ^^^ t], by simp, by omega, by simp [HY.out], by have := HJ.out; omega, by rw [HC2.out], HO2.out.drew, HB4.out⟩
              case measure => simp [intOf]; omega
            · have hc2 : true = decide (ys ++ [y ^^^ t] ≠ List.take (i + 1) (List.drop a b)) := by rw [HCH.out, ← HCB.out, Bool.true_or]
              have HC2 := Lib.hid hc2
              clear hc2
              go_wp2_with fail
              go_roundw
              case rel => exact ⟨i + 1, ys ++ [y ^^^ t], by simp, by omega, by simp [HY.out], by have := HJ.out; omega, by rw [HC2.out], HO2.out.drew, HB4.out⟩
              case measure => simp [intOf]; omega
          · skip
            have hpl := HP.out a i ys haH (by have := HJ.out; have := HN.out; omega) (by have := HES.out; have := HJ.out; omega) hi HY.out
            have HPL := Lib.hid hpl
            clear hpl
            go_wp2_with fail
            refine (take_any _ N c2 _ wr (HO.out.reads) hle hcl).mono ?_
            rw [HPL.out]
            have hcc := HCB.out
            have hb0 := (HK1.out.at_ HB.out).1
            have HK4 := Lib.hid ((HK1.out.on HB.out))
            clear hb0
            cases cb
            · have heq : ys = (b.drop a).take i := by simpa using hcc.symm
              rw [if_pos heq]
              clear hcc heq
              rintro e w5 ⟨⟨A5, c5, rfl, ho⟩, hb⟩
              have HK5 := Lib.hid ((HK4.out.on hb).and ho.keepsR)
              clear ho hb
              have ks := str_u8 (c := c5) HK5.out.now.2
              rw [hlen] at ks
              have ks2 := str_u8 (c := c) HK5.out.now.1.1.2
              go_wp2_with fail
              go_ret
              exact ⟨rfl, HK5.out.now.1.1.1⟩
            · have heq : ¬ ys = (b.drop a).take i := by simpa using hcc.symm
              rw [if_neg heq]
              clear hcc heq
              rintro e w5 ⟨rfl, hb⟩
              have HK5 := Lib.hid (HK4.out.on hb)
              clear hb
              go_wp2_with fail
              go_ret
              exact ⟨rfl, HK5.out.now.1.1⟩
        · skip
          have hpl := HP.out a i ys haH (by have := HJ.out; have := HN.out; omega) (by have := HES.out; have := HJ.out; omega) hi HY.out
          have HPL := Lib.hid hpl
          clear hpl
          go_wp2_with fail
          refine (take_any _ N c2 _ wr (HO.out.reads) hle hcl).mono ?_
          rw [HPL.out]
          have hcc := HCB.out
          have hb0 := (HK1.out.at_ HB.out).1
          have HK4 := Lib.hid ((HK1.out.on HB.out))
          clear hb0
          cases cb
          · have heq : ys = (b.drop a).take i := by simpa using hcc.symm
            rw [if_pos heq]
            clear hcc heq
            rintro e w5 ⟨⟨A5, c5, rfl, ho⟩, hb⟩
            have HK5 := Lib.hid ((HK4.out.on hb).and ho.keepsR)
            clear ho hb
            have ks := str_u8 (c := c5) HK5.out.now.2
            rw [hlen] at ks
            have ks2 := str_u8 (c := c) HK5.out.now.1.1.2
            go_wp2_with fail
            go_ret
            exact ⟨rfl, HK5.out.now.1.1.1⟩
          · have heq : ¬ ys = (b.drop a).take i := by simpa using hcc.symm
            rw [if_neg heq]
            clear hcc heq
            rintro e w5 ⟨rfl, hb⟩
            have HK5 := Lib.hid (HK4.out.on hb)
            clear hb
            go_wp2_with fail
            go_ret
            exact ⟨rfl, HK5.out.now.1.1⟩

theorem cells_a4 : Try.prog.cellsOf 43 = 4 := by kernel_rfl
theorem cel_u8 {w : World} {m : Nat} {v : Value} (h : Cel Try.prog w m 5 [v]) : ∃ x : UInt8, v = .int .u8 x.toNat := by
  obtain ⟨x, hx, hw⟩ := cel_int Try.underlying5 h
  simp only [Lit.wf, Bool.and_eq_true, decide_eq_true_eq] at hw
  have e1 : IntKind.u8.min = 0 := by decide
  have e2 : IntKind.u8.max = 255 := by decide
  refine ⟨UInt8.ofNat x.toNat, ?_⟩
  rw [u8_cast (by omega), Int.toNat_of_nonneg (by omega)]
  simpa using hx
theorem bursts_vals (W : World) (args : Array Value) (hv : Vals Try.prog W [23, 3, 43] args.toList) :
    Calls Try.prog 7 args W fun e W' => e = .returned (.bool true) ∧ Below W.heap.size W W' := by
  obtain ⟨v0, r0, e0, h0, v1, r1, rfl, h1, v2, r2, rfl, h2, rfl⟩ := hv
  obtain rfl : args = #[v0, v1, v2] := by cases args; simp_all
  obtain ⟨A, n, c, l, rfl, hr, hn, hc⟩ := val_bytes h0
  obtain ⟨x, rfl, hw⟩ := val_int Try.underlying3 h1
  simp only [Lit.wf, Bool.and_eq_true, decide_eq_true_eq] at hw
  have e1 : IntKind.i64.min = -9223372036854775808 := by decide
  have e2 : IntKind.i64.max = 9223372036854775807 := by decide
  obtain ⟨cs, rfl, hl, k, hk⟩ := val_array Try.underlying43 h2
  rw [cells_a4] at hl
  rw [cells_u8] at hk
  obtain ⟨l4⟩ := cs
  match l4, hl, hk with
  | [a0, a1, a2, a3], _, hk =>
    obtain ⟨t0, rfl⟩ := cel_u8 (v := a0) (hk 0 (by simp))
    obtain ⟨t1, rfl⟩ := cel_u8 (v := a1) (hk 1 (by simp))
    obtain ⟨t2, rfl⟩ := cel_u8 (v := a2) (hk 2 (by simp))
    obtain ⟨t3, rfl⟩ := cel_u8 (v := a3) (hk 3 (by simp))
    exact bursts_walk A n c l x t0 t1 t2 t3 W hr hn hc (by omega) (by omega)

set_option maxRecDepth 100000 in
theorem bursts_lifted (os : Os) (started : os.Started) (H : Type) (enc : TypeId × Value → H) :
    ReturnsInHanded {} Try.checked os 7 .any (Rows.frameBurstsSpec.pre6 enc Try.prog Try.f7 Rows.frameBurstsRow.domain false) (Rows.frameBurstsSpec.post enc Try.prog Try.f7 false true false false) :=
  lift_law (C := Try.checked) #[23, 3, 43] (by kernel_rfl) (by kernel_rfl) started (by kernel_rfl) Try.func7
    (ChangeSpec.witness6 (enc := enc) (C := Try.checked) false ⟨#[], #[.slice none 0 0, .int .i64 0, .agg #[.int .u8 0, .int .u8 0, .int .u8 0, .int .u8 0]], []⟩ 8 (by kernel_rfl) (by kernel_rfl) (by kernel_rfl) (by kernel_rfl))
    Try.params7 (by kernel_rfl) rfl rfl Try.underlying4 (fun ds hl => match ds, hl with | [_, _, _], _ => rfl) (fun W args hv => bursts_vals W args hv)

theorem bursts_holds : Rows.FrameBurstsSaid :=
  OpenClaim.holds_of_wide 7 Try.f7 rfl rfl rfl rfl rfl rfl rfl ⟨rfl, rfl, rfl, rfl, rfl⟩ rfl rfl rfl rfl rfl (by kernel_rfl) Try.func7 (by kernel_rfl)
    (of_decide_eq_true (by kernel_rfl)) (by unfold Func.isWrapper; rw [if_neg (of_decide_eq_false (by kernel_rfl))]; exact ⟨rfl, rfl⟩)
    (fun os started H enc _ => bursts_lifted os started H enc)
end Go.Proofs.Ytcdaioljddaopaa
