/- walk: bloom.Build -/
import Derived.Test.YtmlkjeaoaanogaaBlmB
import Derived.Test.YtmlkjeaoaanogaaLibM
namespace Go.Proofs.Ytmlkjeaoaanogaa
open Go.RowKit Go.Shelf
attribute [local go_sem] Oper.semAt_some

theorem zero_u8 : (Try.prog.info? 5).bind (·.zero) = some (.int .u8 0) := by kernel_rfl
theorem size_str : (Try.prog.info? 9).map (·.size) = some 1 := by kernel_rfl
def keysL (ks : List ByteArray) : List (List UInt8) := ks.map fun s => s.data.toList

/-- Between two keys. -/
def BI (w : World) (sz k : Nat) (A : Option Addr) (n c : Nat) (ks : List ByteArray) (a : Act) (w' : World) : Prop :=
  ∃ (i : Nat) (rs : List Nat), a.tmps.size = 63 ∧ a.tmps.getD 5 undef = .int .i64 sz ∧ a.tmps.getD 6 undef = .int .i64 k ∧ a.tmps.getD 7 undef = .pointer (some ⟨w.heap.size + 1, 0, none⟩) ∧ a.tmps.getD 33 undef = .slice A n c ∧ a.tmps.getD 34 undef = .int .i64 n ∧ a.tmps.getD 35 undef = .int .i64 i ∧ i ≤ n ∧
    a.defers = marks rs ∧ Marked w.heap.size rs w' ∧ Blk w' (w.heap.size + 1) 25 #[.slice (some ⟨w.heap.size, 0, none⟩) (sz + 1) (sz + 1)] ∧
    Blk w' w.heap.size 5 (u8s (bitsL sz k (keysL (ks.take i)) (List.replicate (sz + 1) 0))).toArray ∧ Below w.heap.size w w'

set_option maxRecDepth 100000 in
set_option maxHeartbeats 4000000 in
theorem build_any (A : Option Addr) (n c : Nat) (ks : List ByteArray) (per : Int) (w : World) (hx : Reads w w.heap.size 1 A n (strs ks)) (hn : n ≤ 65536) (hnc : n ≤ c) (hs : ∀ s ∈ ks, s.size ≤ maxLen) :
    Calls Try.prog 10 #[.slice A n c, .int .i64 per] w fun e w' => ∃ A' c', e = .returned (.slice A' (buildL (keysL ks) per).length c') ∧ Own w' w.heap.size 5 1 A' (buildL (keysL ks) per).length c' (u8s (buildL (keysL ks) per)) ∧ Below w.heap.size w w' := by
  have hlen : ks.length = n := by have := hx.1; rw [strs_length] at this; omega
  have HX := Lib.hid hx
  have HL := Lib.hid hlen
  have HS := Lib.hid hs
  clear hx hlen hs
  have hp := perN_le per
  have hpi : ((perN per : Nat) : Int) = min (max per 1) 24 := by unfold perN; omega
  obtain ⟨P, hP⟩ : ∃ P, P = perN per := ⟨_, rfl⟩
  rw [← hP] at hp hpi
  have hsz := sizeN_le hn hp.2
  have hszd : sizeN n P = (max 64 (n * P) + 7) / 8 := rfl
  have hkk := kN_le hp.2
  have hkd : kN P = max 1 (P * 69 / 100) := rfl
  obtain ⟨sz, hsze⟩ : ∃ sz, sz = sizeN n P := ⟨_, rfl⟩
  obtain ⟨k, hke⟩ : ∃ k, k = kN P := ⟨_, rfl⟩
  rw [← hsze] at hsz hszd
  rw [← hke] at hkk hkd
  have h24 : n * P ≤ 65536 * 24 := Nat.mul_le_mul hn hp.2
  have hm1 : (if per < 1 then (1 : Int) else per) = max per 1 := by omega
  have hm2 : (if (24 : Int) < max per 1 then (24 : Int) else max per 1) = (P : Int) := by omega
  have hm3 : (if (65536 : Int) < (n : Int) then (65536 : Int) else (n : Int)) = (n : Int) := by omega
  obtain ⟨q, hq⟩ : ∃ q, q = n * P := ⟨_, rfl⟩
  have hqi : (n : Int) * (P : Int) = (q : Int) := by rw [hq]; simp
  rw [← hq] at hszd h24
  obtain ⟨m6, hm6⟩ : ∃ m, m = max 64 q := ⟨_, rfl⟩
  have hm4 : (if (64 : Int) < (q : Int) then (q : Int) else 64) = (m6 : Int) := by omega
  have hm68 : m6 ≤ 1572864 := by omega
  obtain ⟨m7, hm7⟩ : ∃ m, m = m6 + 7 := ⟨_, rfl⟩
  have hm5 : (m6 : Int) + 7 = (m7 : Int) := by omega
  have hm8 : (m7 : Int) / 8 = (sz : Int) := by omega
  have hm78 : m7 ≤ 1572871 := by omega
  obtain ⟨p69, hp69⟩ : ∃ m, m = P * 69 := ⟨_, rfl⟩
  have hp1 : (P : Int) * 69 = (p69 : Int) := by omega
  have hp6 : p69 ≤ 1656 := by omega
  obtain ⟨p100, hp100⟩ : ∃ m, m = p69 / 100 := ⟨_, rfl⟩
  have hp2 : (p69 : Int) / 100 = (p100 : Int) := by omega
  have hp3 : (if (1 : Int) < (p100 : Int) then (p100 : Int) else 1) = (k : Int) := by omega
  have hmk := fun w => run_make1 (P := Try.prog) elem_u8 (.int .u8 0) zero_u8 rfl (sz + 1) (by omega) w
  rw [show (((sz + 1 : Nat)) : Int) = (sz : Int) + 1 by omega] at hmk
  have HE := Lib.hid (And.intro hP (And.intro hsze hke))
  have hsz2 : sz ≤ 196609 := hsz.2
  have hsz1 : 8 ≤ sz := hsz.1
  have hk2 : k ≤ 16 := hkk.2
  have hk1 : 1 ≤ k := hkk.1
  have hP2 : P ≤ 24 := hp.2
  have hsh := cut_high (P := Try.prog) (n := n) (hi := n) (c := c) Try.underlying22 size_str A hnc
  clear hP hsze hke hszd hkd hpi hq hm6 hm7 hp69 hp100 hsz hkk hp
  obtain ⟨fd, hfd⟩ : ∃ fd : Nat, 6 ≤ fd := ⟨6, Nat.le_refl _⟩
  refine (callsIn_wide (n := fd)).1 ?_
  refine callsIn_of_wp_marks Try.func10 rfl trivial ?_ rfl
  simp only [Try.ntmps10, List.size_toArray, List.length_cons, List.length_nil, Nat.reduceAdd, Nat.reduceSub, Array.replicate_succ, Array.replicate_zero, List.push_toArray, List.append_toArray, List.nil_append, List.cons_append]
  gi_wp2_with fail
  clear hmk hm1 hm2 hm3 hqi hm4 hm5 hm8 hp1 hp2 hp3 hsh
  refine wpIn_loop (BI w sz k A n c ks) (fun a _ => n - (intOf (a.tmps.getD 35 undef)).toNat) ?_ ?_
  · refine ⟨0, [], rfl, rfl, rfl, rfl, rfl, rfl, rfl, by omega, rfl, Marked.nil _ _, Blk.new_ (by simp) _ _, ?_, ((Below.refl _ w).alloc (Nat.le_refl _) _).alloc (by simp) _⟩
    have h := (Blk.new w 5 (Array.replicate (sz + 1) (Value.int .u8 0))).alloc (.cells #[.slice (some ⟨w.heap.size, 0, none⟩) (sz + 1) (sz + 1)] 25)
    simpa [keysL, bitsL, u8s] using h
  · rintro ⟨⟨tl⟩, ds⟩ wr ⟨i, rs, hsize, e5, e6, e7, e33, e34, e35, hi, hds, hmk, hbx, hbd, hb⟩
    match tl, hsize with
    | x0 :: x1 :: x2 :: x3 :: x4 :: x5 :: x6 :: x7 :: x8 :: x9 :: x10 :: x11 :: x12 :: x13 :: x14 :: x15 :: x16 :: x17 :: x18 :: x19 :: x20 :: x21 :: x22 :: x23 :: x24 :: x25 :: x26 :: x27 :: x28 :: x29 :: x30 :: x31 :: x32 :: x33 :: x34 :: x35 :: x36 :: x37 :: x38 :: x39 :: x40 :: x41 :: x42 :: x43 :: x44 :: x45 :: x46 :: x47 :: x48 :: x49 :: x50 :: x51 :: x52 :: x53 :: x54 :: x55 :: x56 :: x57 :: x58 :: x59 :: x60 :: x61 :: x62 :: [], _ =>
    obtain rfl : x5 = _ := e5
    obtain rfl : x6 = _ := e6
    obtain rfl : x7 = _ := e7
    obtain rfl : x33 = _ := e33
    obtain rfl : x34 = _ := e34
    obtain rfl : x35 = _ := e35
    obtain rfl : ds = _ := hds
    have HMK := Lib.hid hmk
    have HBX := Lib.hid hbx
    have HBD := Lib.hid hbd
    have HB := Lib.hid hb
    clear hmk hbx hbd hb
    by_cases hin : (i : Int) < (n : Int)
    · obtain ⟨ad, rfl, hbk, hcell⟩ := (HX.out.below HB.out).str_ (k := i) (by omega)
      have hi0 : (0 : Int) ≤ (i : Int) := by omega
      obtain ⟨N, hNe⟩ : ∃ N, N = 8 * sz := ⟨_, rfl⟩
      have hN8 : 8 * (sz : Int) = (N : Int) := by omega
      have hN0 : 0 < N := by omega
      have hN2 : N ≤ 8388608 := by omega
      have HNE := Lib.hid hNe
      obtain ⟨s, hse⟩ : ∃ s, s = ks.getD i .empty := ⟨_, rfl⟩
      rw [← hse] at hcell
      have HSE := Lib.hid hse
      clear hNe hse
      have hss : s.size ≤ maxLen := by
        rw [HSE.out]
        have hl : i < ks.length := by rw [HL.out]; omega
        have := HS.out ks[i] (List.getElem_mem hl)
        simpa [List.getD, List.getElem?_eq_getElem hl] using this
      (repeat gi_step)
      refine ⟨trivial, fun _ => (by omega), (callsIn_wide.2 (places_any s N k wr)).mono ?_⟩
      rintro e w' ⟨rfl, hw'⟩
      have bK := ((Blk.new wr 9 #[.string s]).alloc (.cells #[.int .u32 N] 27)).alloc (.cells #[.int .i64 k] 3)
      have bN := (Blk.new_ (w := wr.alloc (.cells #[.string s] 9)) (g := wr.heap.size + 1) (by simp) 27 #[.int .u32 N]).alloc (.cells #[.int .i64 k] 3)
      have bC := Blk.new_ (w := (wr.alloc (.cells #[.string s] 9)).alloc (.cells #[.int .u32 N] 27)) (g := wr.heap.size + 1 + 1) (by simp) 3 #[.int .i64 k]
      have hup := (((Upd.refl (fun _ => False) wr).alloc (.cells #[.string s] 9)).alloc (.cells #[.int .u32 N] 27)).alloc (.cells #[.int .i64 k] 3)
      have hz3 : w'.heap.size = wr.heap.size + 3 := by rw [hw']; simp
      rw [← hw'] at bK bN bC hup
      have c1 := bK.c1.1
      have c2 := bC.c1.1
      have c3 := bN.c1.1
      have HMK3 := Lib.hid (HMK.out.upd hup (fun _ _ h => h))
      have HBX3 := Lib.hid (HBX.out.upd hup (fun h => h))
      have HBD3 := Lib.hid (HBD.out.upd hup (fun h => h))
      have HB3 := Lib.hid (HB.out.trans (hup.none_.mono HB.out.size))
      have hzw := HB.out.size
      have hmd : ∀ D ∈ rs, D < w'.heap.size := fun D hD => (HMK3.out.2 D hD).2.1
      have HMD := Lib.hid hmd
      have hgz := HBX3.out.lt
      have hsr : setBit = setBit := rfl
      clear bK bN bC hup hmd HMK HBX HBD hw' hcell hsr
      gi_wp2_with fail
      refine wpIn_rangeFunc_ownG rfl (by omega) (gf := 18) (lb := #[.pointer (some ⟨wr.heap.size, 0, none⟩), .pointer (some ⟨wr.heap.size + 1 + 1, 0, none⟩), .pointer (some ⟨wr.heap.size + 1, 0, none⟩)]) rfl trivial (enters_of Try.func18 (by kernel_rfl) rfl)
        (places_stops (fd - 1) (by omega) wr.heap.size (wr.heap.size + 1 + 1) (wr.heap.size + 1) w' (by omega) (by omega) (by omega) s hss N k hN0 hN2 (by omega) c1 c2 c3) KN.trans (KN.put (by omega)) (Below.refl _ _) (fun _ => rfl)
        (fun (pre : List { x : Nat // x < N }) W => Blk W (w.heap.size + 1) 25 #[.slice (some ⟨w.heap.size, 0, none⟩) (sz + 1) (sz + 1)] ∧
          Blk W w.heap.size 5 (u8s ((pre.map (·.1)).foldl setBit (bitsL sz k (keysL (ks.take i)) (List.replicate (sz + 1) 0)))).toArray ∧ Marked w.heap.size rs W ∧ Below w.heap.size w W)
        (fun _ _ _ => False)
        (fun _ _ _ _ hs hg hr => ⟨blk_grown hs.1 hg hr, blk_grown hs.2.1 hg hr, marked_grown hs.2.2.1 HMD.out hg (fun r e => (hr r e).1), hs.2.2.2.grown hg hs.2.2.2.size (fun r e => by have := (hr r e).1; omega)⟩)
        (fun _ _ _ _ _ hs _ _ => hs)
        ⟨HBX3.out, HBD3.out, HMK3.out, HB3.out⟩ ?a1 ?assign ?body ?done ?stop
      case assign =>
        intro l x W K hK
        (repeat gi_step)
        exact hK
      case body =>
        rintro l pre ⟨xv, hxv⟩ W ⟨hbx, hbd, hmk, hB⟩ _
        dsimp only at *
        obtain ⟨j, hj⟩ : ∃ j, j = xv / 8 := ⟨_, rfl⟩
        obtain ⟨r, hr⟩ : ∃ r, r = xv % 8 := ⟨_, rfl⟩
        have hjx : (xv : Int) / 8 = (j : Int) := by omega
        have hrx : (xv : Int) % 8 = (r : Int) := by omega
        have hjs : (j : Int) < (sz : Int) + 1 := by have := HNE.out; omega
        have hr8 : r < 8 := by omega
        obtain ⟨cur, hcur⟩ : ∃ cur, cur = (pre.map (·.1)).foldl setBit (bitsL sz k (keysL (ks.take i)) (List.replicate (sz + 1) 0)) := ⟨_, rfl⟩
        have hcl : cur.length = sz + 1 := by rw [hcur, setBits_length, bitsL_length, List.length_replicate]
        rw [← hcur] at hbd
        have cbx := hbx.c1
        have cj := hbd.cell j
        have fj := hbd.frozen j
        obtain ⟨b, hb⟩ : ∃ b, b = cur.getD j 0 := ⟨_, rfl⟩
        rw [List.getElem?_toArray, u8s_get, show cur[j]? = some b by rw [hb, List.getD_eq_getElem?_getD, List.getElem?_eq_getElem (by omega)]; rfl] at cj
        simp only [Option.map_some] at cj
        obtain ⟨cb, fb⟩ := cbx
        have HCUR := Lib.hid (And.intro hcur (And.intro hb (And.intro hj (And.intro hr hcl))))
        have HBXB := Lib.hid hbx
        have HBDB := Lib.hid hbd
        have HMKB := Lib.hid hmk
        clear hcur hb hj hr hcl hbx hbd hmk
        have hb256 : (b.toNat : Int) < 256 := by have := b.toNat_lt; omega
        have hor : bits BinOp.or IntKind.u8 (b.toNat : Int) (2 ^ r % 256) = ((b.toNat ||| (bitOf xv).toNat : Nat) : Int) := by
          have e1 : ((2 : Int) ^ r % 256) = ((2 ^ r % 256 : Nat) : Int) := by simp
          have e2 : (bitOf xv).toNat = 2 ^ r % 256 := by unfold bitOf; rw [← HCUR.out.2.2.2.1]; simp
          rw [e1, u8_or_nat _ _ b.toNat_lt (by omega), e2]
        have hset := HBDB.out.set_ j (.int .u8 ((b.toNat ||| (bitOf xv).toNat : Nat) : Int))
        have hsb : ((u8s cur).toArray.setIfInBounds j (.int .u8 ((b.toNat ||| (bitOf xv).toNat : Nat) : Int))) = (u8s (setBit cur xv)).toArray := by
          unfold setBit
          rw [← HCUR.out.2.2.1, ← HCUR.out.2.1]
          rw [← UInt8.toNat_or]
          simp [u8s, List.map_set]
        rw [hsb] at hset
        have HSET := Lib.hid hset
        have hgB : w.heap.size < W.heap.size := HBDB.out.lt
        clear hset hsb
        have hgx : Blk (W.setCell ⟨w.heap.size, j, none⟩ (.int .u8 ((b.toNat ||| (bitOf xv).toNat : Nat) : Int))) (w.heap.size + 1) 25 #[.slice (some ⟨w.heap.size, 0, none⟩) (sz + 1) (sz + 1)] := HBXB.out.far (by simp) _
        have HGX := Lib.hid hgx
        have hmg : Marked w.heap.size rs (W.setCell ⟨w.heap.size, j, none⟩ (.int .u8 ((b.toNat ||| (bitOf xv).toNat : Nat) : Int))) :=
          HMKB.out.upd (S := fun q => q = w.heap.size) (Upd.setCell (S := fun q => q = w.heap.size) (Upd.refl _ _) (p := ⟨w.heap.size, j, none⟩) (fun _ => rfl) _) (fun D hD e => by
            subst e
            have h1 := (HMKB.out.2 _ hD).2.2
            have h2 := HBDB.out
            unfold Blk at h2
            rw [h2] at h1
            cases h1)
        have HMG := Lib.hid hmg
        clear hgx hmg
        (repeat gi_step)
        refine ⟨(KeepsOthers.setCell _ _ _).from _, ?_, HGX.out, ?_, HMG.out, hB.setCell (p := ⟨w.heap.size, j, none⟩) (Nat.le_refl _) _⟩
        · exact World.cell?_setCell_other W ⟨w.heap.size, j, none⟩ ⟨wr.heap.size + 1, 0, none⟩ _ (fun e => by injection e with e1; omega)
        · rw [List.map_append, List.foldl_append, ← HCUR.out.1]
          exact HSET.out
      case done =>
        rintro D ys W hD rfl ⟨hbx, hbd, hmk, hB⟩ hK
        have hbit : (placesS s.data.toList hN0 k).map (·.1) = placesL s.data.toList (8 * sz) k := by rw [placesS_map, HNE.out]
        rw [hbit, ← bitsL_snoc] at hbd
        have hDW : D < W.heap.size := by
          rcases Nat.lt_or_ge D W.heap.size with h | h
          · exact h
          · rw [Array.getElem?_eq_none h] at hK; cases hK
        have hmk2 : Marked w.heap.size (D :: rs) W := by
          refine ⟨List.nodup_cons.2 ⟨fun h => ?_, hmk.1⟩, fun E hE => ?_⟩
          · have := HMD.out D h
            omega
          · rcases List.mem_cons.1 hE with rfl | hE
            · exact ⟨by omega, hDW, hK⟩
            · exact hmk.2 E hE
        have hkey : keysL (ks.take (i + 1)) = keysL (ks.take i) ++ [s.data.toList] := by
          have hl : i < ks.length := by rw [HL.out]; omega
          rw [HSE.out, List.take_succ_eq_append_getElem hl]
          unfold keysL
          rw [List.map_append]
          simp [List.getD, List.getElem?_eq_getElem hl]
        rw [← hkey] at hbd
        have HM2 := Lib.hid hmk2
        have HB2 := Lib.hid hbd
        have HX2 := Lib.hid hbx
        clear hbit hmk2 hbd hbx hkey hmk hK
        (repeat gi_step)
        refine ⟨⟨i + 1, D :: rs, rfl, rfl, rfl, rfl, rfl, rfl, by simp [Array.getD], by omega, rfl, HM2.out, HX2.out, HB2.out, hB⟩, ?_⟩
        simp [intOf, Array.getD]
        omega
      case stop =>
        rintro D c pre W _ _ h _
        exact h.elim
    · have hie : i = n := by omega
      have htk : ks.take i = ks := List.take_of_length_le (by rw [HL.out]; omega)
      obtain ⟨cur, hcur⟩ : ∃ cur, cur = bitsL sz k (keysL ks) (List.replicate (sz + 1) 0) := ⟨_, rfl⟩
      have hcl : cur.length = sz + 1 := by rw [hcur, bitsL_length, List.length_replicate]
      have hbd := HBD.out
      rw [htk, ← hcur] at hbd
      have hbuild : buildL (keysL ks) per = cur.set sz (UInt8.ofNat k) := by
        have h1 : (keysL ks).take 65536 = keysL ks := List.take_of_length_le (by simp [keysL, HL.out]; omega)
        have h2 : (keysL ks).length = n := by simp [keysL, HL.out]
        unfold buildL
        rw [h1, h2, ← HE.out.1, ← HE.out.2.1, ← HE.out.2.2, hcur]
      have hbl : (buildL (keysL ks) per).length = sz + 1 := by rw [hbuild, List.length_set, hcl]
      have cj := hbd.cell sz
      have fj := hbd.frozen sz
      obtain ⟨b, hb⟩ : ∃ b, cur[sz]? = some b := ⟨_, List.getElem?_eq_getElem (by omega)⟩
      rw [List.getElem?_toArray, u8s_get, hb] at cj
      simp only [Option.map_some] at cj
      obtain ⟨cb, fb⟩ := HBX.out.c1
      have hset := hbd.set_ sz (.int .u8 (k : Int))
      have hsb : ((u8s cur).toArray.setIfInBounds sz (.int .u8 (k : Int))) = (u8s (buildL (keysL ks) per)).toArray := by
        rw [hbuild]
        have : (k : Int) = ((UInt8.ofNat k).toNat : Int) := by simp; omega
        rw [this]
        simp [u8s, List.map_set]
      rw [hsb] at hset
      have hgx : w.heap.size + 1 ≠ w.heap.size := by omega
      have HSET := Lib.hid hset
      have HBXS := Lib.hid (HBX.out.far (p := ⟨w.heap.size, sz, none⟩) hgx (.int .u8 (k : Int)))
      have HMG := Lib.hid (HMK.out.upd (S := fun q => q = w.heap.size) (Upd.setCell (S := fun q => q = w.heap.size) (Upd.refl _ _) (p := ⟨w.heap.size, sz, none⟩) (fun _ => rfl) (.int .u8 (k : Int))) (fun D hD e => by
        subst e
        have h1 := (HMK.out.2 _ hD).2.2
        have h2 := HBD.out
        unfold Blk at h2
        rw [h2] at h1
        cases h1))
      have HBS := Lib.hid (HB.out.setCell (p := ⟨w.heap.size, sz, none⟩) (Nat.le_refl _) (.int .u8 (k : Int)))
      have HBL := Lib.hid hbl
      have hk256 : (k : Int) % 256 = (k : Int) := by omega
      have hne1 : ¬ w.heap.size + 1 = w.heap.size := by omega
      clear hcur hcl hbuild hbl hb hset hsb hbd htk hgx hie
      (repeat gi_step)
      refine leaves_marks w.heap.size rs _ HMG.out (fun w2 hb2 hc2 => ⟨_, results_tmp rfl _ _ _, ?_⟩)
      have hblk : Blk w2 w.heap.size 5 (u8s (buildL (keysL ks) per)).toArray := hc2 _ _ _ _ HSET.out
      have ho := Own.of_blk (base := w.heap.size) (size := 1) (n := sz + 1) (c := sz + 1) hblk (Nat.le_refl _) (Nat.le_refl _) (by unfold maxLen; omega) (by simp [u8s, HBL.out])
      rw [HBL.out]
      refine ⟨_, _, rfl, ?_, HBS.out.trans hb2⟩
      have e : (u8s (buildL (keysL ks) per)).toArray.toList.take ((sz + 1) * 1) = u8s (buildL (keysL ks) per) := by
        rw [List.take_of_length_le (by simp [u8s, HBL.out])]
      rwa [e] at ho
end Go.Proofs.Ytmlkjeaoaanogaa
