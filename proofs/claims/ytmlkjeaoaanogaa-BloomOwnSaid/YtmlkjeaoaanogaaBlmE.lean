/- walks: convoyref05.Build, convoyref05.May -/
import Derived.Test.YtmlkjeaoaanogaaBlmD
import Derived.StillTailTactics
namespace Go.Proofs.Ytmlkjeaoaanogaa
open Go.RowKit

theorem setBit_or {cur : List UInt8} {p j r : Nat} {b : UInt8} (hj : j = p / 8) (hr : r = p % 8) (hb : b = cur.getD j 0) :
    bits BinOp.or IntKind.u8 (b.toNat : Int) (2 ^ r % 256) = ((b.toNat ||| (bitOf p).toNat : Nat) : Int) ∧ ((u8s cur).toArray.setIfInBounds j (.int .u8 ((b.toNat ||| (bitOf p).toNat : Nat) : Int))) = (u8s (setBit cur p)).toArray := by
  constructor
  · have e1 : ((2 : Int) ^ r % 256) = ((2 ^ r % 256 : Nat) : Int) := by simp
    have e2 : (bitOf p).toNat = 2 ^ r % 256 := by unfold bitOf; rw [← hr]; simp
    rw [e1, u8_or_nat _ _ b.toNat_lt (by omega), e2]
  · unfold setBit
    rw [← hj, ← hb, ← UInt8.toNat_or]
    simp [u8s, List.map_set]
theorem natInts_get (ps : List Nat) {j : Nat} (hj : j < ps.length) : (ints (natInts ps))[j]? = some (.int .i64 ((ps.getD j 0 : Nat) : Int)) := by
  simp [ints, natInts, List.getD, List.getElem?_eq_getElem hj]

set_option maxRecDepth 100000 in
set_option maxHeartbeats 4000000 in
theorem refBuild_any (A : Option Addr) (n c : Nat) (ks : List ByteArray) (per : Int) (w : World) (hx : Reads w w.heap.size 1 A n (strs ks)) (hn : n ≤ 65536) (hs : ∀ s ∈ ks, s.size ≤ maxLen) :
    Calls Try.prog 11 #[.slice A n c, .int .i64 per] w fun e w' => ∃ A' c', e = .returned (.slice A' (buildL (keysL ks) per).length c') ∧ Own w' w.heap.size 5 1 A' (buildL (keysL ks) per).length c' (u8s (buildL (keysL ks) per)) ∧ Below w.heap.size w w' := by
  have hlen : ks.length = n := by have := hx.1; rw [strs_length] at this; omega
  have HX := Lib.hid hx
  have HL := Lib.hid hlen
  have HS := Lib.hid hs
  clear hx hlen hs
  have hp := perN_le per
  have hpi : ((perN per : Nat) : Int) = max (min 24 per) 1 := by unfold perN; omega
  obtain ⟨P, hP⟩ : ∃ P, P = perN per := ⟨_, rfl⟩
  rw [← hP] at hp hpi
  have hsz := sizeN_le hn hp.2
  have hszd : sizeN n P = (max 64 (n * P) + 7) / 8 := rfl
  have hkk := kN_le hp.2
  have hkd : kN P = max 1 (P * 69 / 100) := rfl
  obtain ⟨sz, hsze⟩ : ∃ sz, sz = sizeN n P := ⟨_, rfl⟩
  obtain ⟨k, hke⟩ : ∃ k, k = kN P := ⟨_, rfl⟩
  rw [← hsze] at hsz hszd
  rw [← hke] at hkk hkd
  have h24 : n * P ≤ 65536 * 24 := Nat.mul_le_mul hn hp.2
  have hm1 : (if per < 24 then per else (24 : Int)) = min 24 per := by omega
  have hm2 : (if (1 : Int) < min 24 per then min 24 per else 1) = (P : Int) := by omega
  have hm3 : (if (65536 : Int) < (n : Int) then (65536 : Int) else (n : Int)) = (n : Int) := by omega
  obtain ⟨q, hq⟩ : ∃ q, q = n * P := ⟨_, rfl⟩
  have hqi : (n : Int) * (P : Int) = (q : Int) := by rw [hq]; simp
  rw [← hq] at hszd h24
  obtain ⟨m6, hm6⟩ : ∃ m, m = max 64 q := ⟨_, rfl⟩
  have hm4 : (if (64 : Int) < (q : Int) then (q : Int) else 64) = (m6 : Int) := by omega
  have hm68 : m6 ≤ 1572864 := by omega
  obtain ⟨m7, hm7⟩ : ∃ m, m = m6 + 7 := ⟨_, rfl⟩
  have hm5 : (m6 : Int) + 7 = (m7 : Int) := by omega
  have hm8 : (m7 : Int) / 8 = (sz : Int) := by omega
  have hm78 : m7 ≤ 1572871 := by omega
  obtain ⟨p69, hp69⟩ : ∃ m, m = P * 69 := ⟨_, rfl⟩
  have hp1 : (P : Int) * 69 = (p69 : Int) := by omega
  have hp6 : p69 ≤ 1656 := by omega
  obtain ⟨p100, hp100⟩ : ∃ m, m = p69 / 100 := ⟨_, rfl⟩
  have hp2 : (p69 : Int) / 100 = (p100 : Int) := by omega
  have hp3 : (if (1 : Int) < (p100 : Int) then (p100 : Int) else 1) = (k : Int) := by omega
  have hmk := fun w => run_make1 (P := Try.prog) elem_u8 (.int .u8 0) zero_u8 rfl (sz + 1) (by omega) w
  rw [show (((sz + 1 : Nat)) : Int) = (sz : Int) + 1 by omega] at hmk
  have HE := Lib.hid (And.intro hP (And.intro hsze hke))
  have hsz2 : sz ≤ 196609 := hsz.2
  have hsz1 : 8 ≤ sz := hsz.1
  have hk2 : k ≤ 16 := hkk.2
  have hk1 : 1 ≤ k := hkk.1
  have hP2 : P ≤ 24 := hp.2
  clear hP hsze hke hszd hkd hpi hq hm6 hm7 hp69 hp100 hsz hkk hp
  go_enter Try.func11, Try.ntmps11
  go_wp2_with fail
  clear hmk hm1 hm2 hm3 hqi hm4 hm5 hm8 hp1 hp2 hp3
  go_loopw [9] (fun iv wr => ∃ i : Nat, iv = .int .i64 i ∧ i ≤ n ∧ Blk wr w.heap.size 5 (u8s (bitsL sz k (keysL (ks.take i)) (List.replicate (sz + 1) 0))).toArray ∧ Below w.heap.size w wr) (fun iv _ => n - (intOf iv).toNat)
  case atStart =>
    refine ⟨0, rfl, by omega, ?_, (Below.refl _ w).alloc (Nat.le_refl _) _⟩
    have h := Blk.new w 5 (Array.replicate (sz + 1) (Value.int .u8 0))
    simpa [keysL, bitsL, u8s] using h
  case round =>
    obtain ⟨i, rfl, hi, hbd, hb⟩ := hrel
    have HBD := Lib.hid hbd
    have HB := Lib.hid hb
    clear hbd hb
    by_cases hin : (i : Int) < (n : Int)
    · obtain ⟨ad, rfl, hbk, hcell⟩ := (HX.out.below HB.out).str_ (k := i) (by omega)
      have hi0 : (0 : Int) ≤ (i : Int) := by omega
      obtain ⟨N, hNe⟩ : ∃ N, N = 8 * sz := ⟨_, rfl⟩
      have hN8 : 8 * (sz : Int) = (N : Int) := by omega
      have hN0 : 0 < N := by omega
      have hN2 : N ≤ 8388608 := by omega
      obtain ⟨s, hse⟩ : ∃ s, s = ks.getD i .empty := ⟨_, rfl⟩
      rw [← hse] at hcell
      have hl : i < ks.length := by rw [HL.out]; omega
      have hss : s.size ≤ maxLen := by
        rw [hse]
        have := HS.out ks[i] (List.getElem_mem hl)
        simpa [List.getD, List.getElem?_eq_getElem hl] using this
      have hkey : keysL (ks.take (i + 1)) = keysL (ks.take i) ++ [s.data.toList] := by
        rw [hse, List.take_succ_eq_append_getElem hl]
        unfold keysL
        rw [List.map_append]
        simp [List.getD, List.getElem?_eq_getElem hl]
      have HKEY := Lib.hid hkey
      have HNE := Lib.hid hNe
      clear hNe hse hkey hl
      go_wp2_with fail
      refine (refPlaces_any s N k wr hss hN0 hN2 (by omega)).mono ?_
      rintro e w2 ⟨A2, c2, rfl, ho, hb⟩
      have hpl := placesL_length s.data.toList N k
      have hplt := placesL_lt s.data.toList k hN0
      have hps : placesL s.data.toList N k = placesL s.data.toList (8 * sz) k := by rw [HNE.out]
      obtain ⟨ps, hpse⟩ : ∃ ps, ps = placesL s.data.toList N k := ⟨_, rfl⟩
      rw [← hpse] at ho hpl hplt hps
      obtain ⟨gl, rfl, hg1, hg2, -, -⟩ := ho.some_ (by omega)
      have HO := Lib.hid (ho.mono HB.out.size)
      have HPL := Lib.hid hpl
      have HPT := Lib.hid hplt
      have HPS := Lib.hid hps
      have HBD2 := Lib.hid (HBD.out.below hb HBD.out.lt)
      have hgw : w.heap.size < gl := by have := HBD.out.lt; omega
      have HB2 := Lib.hid (HB.out.trans (hb.mono HB.out.size))
      clear ho hpl hplt hps hb hcell hpse hg1 hg2
      obtain ⟨cur, hcur⟩ : ∃ cur, cur = bitsL sz k (keysL (ks.take i)) (List.replicate (sz + 1) 0) := ⟨_, rfl⟩
      have hcl : cur.length = sz + 1 := by rw [hcur, bitsL_length, List.length_replicate]
      rw [← hcur] at HBD2
      have HCL := Lib.hid hcl
      have HCUR := Lib.hid hcur
      clear hcl hcur
      go_wp2_with fail
      obtain ⟨wo, hwo⟩ : ∃ wo : World, wo = wr := ⟨_, rfl⟩
      clear hwo
      go_loopw [11] (fun jv wq => ∃ j : Nat, jv = .int .i64 j ∧ j ≤ k ∧ Blk wq w.heap.size 5 (u8s ((ps.take j).foldl setBit cur)).toArray ∧ Own wq w.heap.size 3 1 (some ⟨gl, 0, none⟩) k c2 (ints (natInts ps)) ∧ Below w.heap.size w wq) (fun jv _ => k - (intOf jv).toNat)
      case atStart => exact ⟨0, rfl, by omega, HBD2.out, HO.out, HB2.out⟩
      case round =>
        obtain ⟨j, rfl, hj, hbd, ho, hb⟩ := hrel
        obtain ⟨cj, hcj⟩ : ∃ cj, cj = (ps.take j).foldl setBit cur := ⟨_, rfl⟩
        have hcjl : cj.length = sz + 1 := by rw [hcj, setBits_length, HCL.out]
        rw [← hcj] at hbd
        have HJ := Lib.hid hcj
        have HBJ := Lib.hid hbd
        have HOJ := Lib.hid ho
        have HB3 := Lib.hid hb
        clear hcj hbd ho hb
        by_cases hjk : (j : Int) < (k : Int)
        · have hj0 : (0 : Int) ≤ (j : Int) := by omega
          have hjl : j < ps.length := by rw [HPL.out]; omega
          obtain ⟨p, hpe⟩ : ∃ p, p = ps.getD j 0 := ⟨_, rfl⟩
          have hpl2 : p < N := by
            rw [hpe]
            have := HPT.out ps[j] (List.getElem_mem hjl)
            simpa [List.getD, List.getElem?_eq_getElem hjl] using this
          have cl := HOJ.out.cell rfl (natInts_get ps hjl)
          rw [← hpe] at cl
          have htake : ps.take (j + 1) = ps.take j ++ [p] := by
            rw [hpe, List.take_succ_eq_append_getElem hjl]
            simp [List.getD, List.getElem?_eq_getElem hjl]
          have HT := Lib.hid htake
          obtain ⟨a, ha⟩ : ∃ a, a = p / 8 := ⟨_, rfl⟩
          obtain ⟨r, hr⟩ : ∃ r, r = p % 8 := ⟨_, rfl⟩
          have hax : (p : Int) / 8 = (a : Int) := by omega
          have hrx : (p : Int) % 8 = (r : Int) := by omega
          have htm : (p : Int).tmod 8 = (r : Int) := by rw [Int.tmod_eq_emod_of_nonneg (by omega)]; exact hrx
          have has : (a : Int) < (sz : Int) + 1 := by have := HNE.out; omega
          have ha0 : (0 : Int) ≤ (a : Int) := by omega
          have hr0 : (0 : Int) ≤ (r : Int) := by omega
          have hr8 : (r : Int) < 8 := by omega
          have hwa : IntKind.i64.wrap (a : Int) = (a : Int) := IntWalk.i64_in _ (by omega)
          have hwr : IntKind.i64.wrap (r : Int) = (r : Int) := IntWalk.i64_in _ (by omega)
          have hwp : IntKind.i64.wrap (p : Int) = (p : Int) := IntWalk.i64_in _ (by omega)
          obtain ⟨b, hbe⟩ : ∃ b, b = cj.getD a 0 := ⟨_, rfl⟩
          have cb := HBJ.out.cell a
          have fb := HBJ.out.frozen a
          rw [List.getElem?_toArray, u8s_get, show cj[a]? = some b by rw [hbe, List.getD_eq_getElem?_getD, List.getElem?_eq_getElem (by omega)]; rfl] at cb
          simp only [Option.map_some] at cb
          obtain ⟨hor, hsb⟩ := setBit_or (cur := cj) ha hr hbe
          have hset := HBJ.out.set_ a (.int .u8 ((b.toNat ||| (bitOf p).toNat : Nat) : Int))
          rw [hsb] at hset
          have HSET := Lib.hid hset
          have hb256 : (b.toNat : Int) < 256 := by have := b.toNat_lt; omega
          have HOS := Lib.hid (HOJ.out.far (p := ⟨w.heap.size, a, none⟩) (fun e => by injection e with e; dsimp only at e; omega) (.int .u8 ((b.toNat ||| (bitOf p).toNat : Nat) : Int)))
          have HBS := Lib.hid (HB3.out.setCell (p := ⟨w.heap.size, a, none⟩) (Nat.le_refl _) (.int .u8 ((b.toNat ||| (bitOf p).toNat : Nat) : Int)))
          clear hpe htake ha hr hbe hsb hset hjl hcjl
          go_wp2_with fail
          go_still_tail 22, (by kernel_rfl)
          change wpList _ _ _ _ _ wr.drew
          go_wp2_with fail
          go_roundw
          case rel => exact ⟨j + 1, by go_num, by omega, by rw [HT.out, List.foldl_append, ← HJ.out]; exact HSET.out.drew, HOS.out.drew, HBS.out.drew⟩
          case measure => simp [intOf]; omega
        · have hjk2 : j = k := by omega
          have htk : ps.take j = ps := List.take_of_length_le (by rw [HPL.out]; omega)
          have hnext : cj = bitsL sz k (keysL (ks.take (i + 1))) (List.replicate (sz + 1) 0) := by
            rw [HJ.out, htk, HCUR.out, HKEY.out, bitsL_snoc, HPS.out]
          have hbn := HBJ.out
          rw [hnext] at hbn
          have HBN := Lib.hid hbn
          clear hjk2 htk hnext hbn
          go_wp2_with fail
          go_roundw
          case rel => exact ⟨i + 1, by go_num, by omega, HBN.out, HB3.out⟩
          case measure => simp [intOf]; omega
    · have htk : ks.take i = ks := List.take_of_length_le (by rw [HL.out]; omega)
      obtain ⟨cur, hcur⟩ : ∃ cur, cur = bitsL sz k (keysL ks) (List.replicate (sz + 1) 0) := ⟨_, rfl⟩
      have hcl : cur.length = sz + 1 := by rw [hcur, bitsL_length, List.length_replicate]
      have hbd := HBD.out
      rw [htk, ← hcur] at hbd
      have hbuild : buildL (keysL ks) per = cur.set sz (UInt8.ofNat k) := by
        have h1 : (keysL ks).take 65536 = keysL ks := List.take_of_length_le (by simp [keysL, HL.out]; omega)
        have h2 : (keysL ks).length = n := by simp [keysL, HL.out]
        unfold buildL
        rw [h1, h2, ← HE.out.1, ← HE.out.2.1, ← HE.out.2.2, hcur]
      have hbl : (buildL (keysL ks) per).length = sz + 1 := by rw [hbuild, List.length_set, hcl]
      have cj := hbd.cell sz
      have fj := hbd.frozen sz
      obtain ⟨b, hb⟩ : ∃ b, cur[sz]? = some b := ⟨_, List.getElem?_eq_getElem (by omega)⟩
      rw [List.getElem?_toArray, u8s_get, hb] at cj
      simp only [Option.map_some] at cj
      have hset := hbd.set_ sz (.int .u8 (k : Int))
      have hsb : ((u8s cur).toArray.setIfInBounds sz (.int .u8 (k : Int))) = (u8s (buildL (keysL ks) per)).toArray := by
        rw [hbuild]
        have : (k : Int) = ((UInt8.ofNat k).toNat : Int) := by simp; omega
        rw [this]
        simp [u8s, List.map_set]
      rw [hsb] at hset
      have ho := Own.of_blk (base := w.heap.size) (size := 1) (n := sz + 1) (c := sz + 1) hset (Nat.le_refl _) (Nat.le_refl _) (by unfold maxLen; omega) (by simp [u8s, hbl])
      have e : (u8s (buildL (keysL ks) per)).toArray.toList.take ((sz + 1) * 1) = u8s (buildL (keysL ks) per) := by
        rw [List.take_of_length_le (by simp [u8s, hbl])]
      rw [e] at ho
      have HO := Lib.hid ho
      have HBS := Lib.hid (HB.out.setCell (p := ⟨w.heap.size, sz, none⟩) (Nat.le_refl _) (.int .u8 (k : Int)))
      have HBL := Lib.hid hbl
      have hk256 : (k : Int) % 256 = (k : Int) := by omega
      clear hcur hcl hbuild hbl hb hset hsb hbd htk ho e
      go_wp2_with fail
      go_ret
      rw [HBL.out]
      exact ⟨_, _, rfl, HO.out, HBS.out⟩
end Go.Proofs.Ytmlkjeaoaanogaa
