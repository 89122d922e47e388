/- law: FrameTorn -/
import Derived.Test.YtcdaioljddaopaaFrmY
namespace Go.Proofs.Ytcdaioljddaopaa
open Go.RowKit

theorem elem_ints : Elem Try.prog 52 3 1 8 := elem_of (by kernel_rfl)
theorem size_rows : (Try.prog.info? 23).map (·.size) = some 1 := by kernel_rfl
/-- What the first loop of FrameTorn has built. -/
structure TornInv (w wr : World) (gl : List (List UInt8)) (gv : List Value) (Ab : Option Addr) (cb : Nat) (Ag : Option Addr) (cg : Nat) (Ae : Option Addr) (ce : Nat) : Prop where
  b : Own wr w.heap.size 5 1 Ab (seals gl).length cb (u8s (seals gl))
  g : Own wr w.heap.size 23 1 Ag gl.length cg gv
  e : Own wr w.heap.size 3 1 Ae gl.length ce (ints (endsL gl))
  r : RowsR w gv gl
  s : ∀ p ∈ gl, p.length ≤ 4096
  o : Below w.heap.size w wr
theorem TornInv.below {w wr w1 : World} {gl gv Ab cb Ag cg Ae ce} (h : TornInv w wr gl gv Ab cb Ag cg Ae ce) (hb : Below wr.heap.size wr w1) : TornInv w w1 gl gv Ab cb Ag cg Ae ce :=
  ⟨h.b.below hb (Nat.le_refl _), h.g.below hb (Nat.le_refl _), h.e.below hb (Nat.le_refl _), h.r, h.s, h.o.trans (hb.mono h.o.size)⟩
theorem RowsR.snoc {w : World} {vs : List Value} {ls : List (List UInt8)} {A : Option Addr} {c : Nat} {l : List UInt8} (h : RowsR w vs ls) (hr : Reads w w.heap.size 1 A l.length (u8s l)) : RowsR w (vs ++ [.slice A l.length c]) (ls ++ [l]) := by
  have hl := h.len
  refine ⟨by simp [hl], fun i u k hu hk => ?_⟩
  rcases Nat.lt_or_ge i vs.length with hi | hi
  · rw [List.getElem?_append_left hi] at hu
    rw [List.getElem?_append_left (by omega)] at hk
    exact h.row i u k hu hk
  · rw [List.getElem?_append_right hi] at hu
    rw [List.getElem?_append_right (by omega)] at hk
    have hi0 : i - vs.length = 0 := by
      have := (List.getElem?_eq_some_iff.1 hu).1
      simp at this
      omega
    rw [hi0] at hu
    rw [show i - ls.length = 0 by omega] at hk
    simp only [List.getElem?_cons_zero, Option.some.injEq] at hu hk
    subst hu hk
    exact ⟨A, c, rfl, hr⟩



theorem RowsR.take {w : World} {vs : List Value} {ls : List (List UInt8)} (h : RowsR w vs ls) (k : Nat) : RowsR w (vs.take k) (ls.take k) := by
  refine ⟨by rw [List.length_take, List.length_take, h.len], fun i v l hv hl => ?_⟩
  rw [List.getElem?_take] at hv hl
  split at hv
  · rename_i hik
    rw [if_pos hik] at hl
    exact h.row i v l hv hl
  · cases hv

set_option maxRecDepth 100000 in
set_option maxHeartbeats 4000000 in
theorem torn_walk (A : Option Addr) (n c : Nat) (vs : List Value) (ls : List (List UInt8)) (x : Int) (w : World) (hx : Reads w w.heap.size 1 A n vs) (hr : RowsR w vs ls) (hl : ∀ l ∈ ls, l.length ≤ 140737488351232) (hc : n ≤ 5864062014634) :
    Calls Try.prog 9 #[.slice A n c, .int .i64 x] w fun e w' => e = .returned (.bool true) ∧ Below w.heap.size w w' := by
  have hlen : ls.length = n := by have := hx.1; have := hr.len; omega
  have HL := Lib.hid hlen
  have HK := Lib.hid ((hx.keeps (Nat.le_refl _)).and hr.keeps)
  have HX := Lib.hid hx
  have HR := Lib.hid hr
  have HLL := Lib.hid hl
  clear hx hr hlen hl
  go_enter Try.func9, Try.ntmps9
  go_wp2_with fail
  refine (awake_any w).mono ?_
  rintro e w1 ⟨rfl, hb⟩
  have HB1 := Lib.hid hb
  clear hb
  go_wp2_with fail
  go_loopw [5, 6, 7, 8] (fun bv gv_ ev iv wr => ∃ (i : Nat) (gl : List (List UInt8)) (gv : List Value) (Ab : Option Addr) (cb : Nat) (Ag : Option Addr) (cg : Nat) (Ae : Option Addr) (ce : Nat),
    iv = .int .i64 i ∧ i ≤ n ∧ i ≤ 40 ∧ gl.length ≤ i ∧ bv = .slice Ab (seals gl).length cb ∧ gv_ = .slice Ag gl.length cg ∧ ev = .slice Ae gl.length ce ∧ TornInv w wr gl gv Ab cb Ag cg Ae ce) (fun _ _ _ iv _ => 40 - (intOf iv).toNat)
  case atStart => exact ⟨0, [], [], none, 0, none, 0, none, 0, rfl, by omega, by omega, by simp, rfl, rfl, rfl, ⟨Own.nil_ _ _ _ _, Own.nil_ _ _ _ _, Own.nil_ _ _ _ _, ⟨rfl, fun _ _ _ h => by simp at h⟩, by simp, HB1.out⟩⟩
  case round =>
    obtain ⟨i, gl, gv, Ab, cb, Ag, cg, Ae, ce, rfl, hin, hi40, hgl, rfl, rfl, rfl, hinv⟩ := hrel
    have hsb := seals_bound gl hinv.s
    have HI := Lib.hid hinv
    clear hinv
    by_cases hlt : (i : Int) < (n : Int)
    · by_cases hlt4 : (i : Int) < 40
      · have h0 : (0 : Int) ≤ (i : Int) := by omega
        obtain ⟨A1, c1, hv, hrd⟩ := HR.out.get (k := i) (by rw [HL.out]; omega)
        obtain ⟨ad, u, rfl, hbk, hu, hcl⟩ := HX.out.at_ (k := i) (by omega)
        rw [hv] at hu
        injection hu with hu
        subst hu
        have hmem : ls.getD i [] ∈ ls := by
          have : i < ls.length := by rw [HL.out]; omega
          simp [List.getD, List.getElem?_eq_getElem this]
        have hp47 := HLL.out _ hmem
        obtain ⟨p, hp⟩ : ∃ p, p = ls.getD i [] := ⟨_, rfl⟩
        rw [← hp] at hv hrd hcl hp47
        clear hmem hp hv
        obtain ⟨m, hm⟩ : ∃ m, m = p.length := ⟨_, rfl⟩
        rw [← hm] at hrd hcl hp47
        have HM := Lib.hid hm
        clear hm
        have HRD := Lib.hid hrd
        have hq : ∀ w', Below w.heap.size w w' → w'.cell? (ad.add i) = some (.slice A1 m c1) := fun w' hb => by
          rw [hb.cell (by rw [block_of_add]; exact hbk)]
          exact hcl
        have HQ := Lib.hid hq
        have hc0 := hq wr HI.out.o
        clear hq hrd hcl hbk
        go_wp2_with fail
        refine (own_any A1 m c1 p wr ((HRD.out.below HI.out.o).more HI.out.o.size) (by omega)).mono ?_
        rintro e w2 ⟨A2, c2, rfl, ho, hb⟩
        have HI2 := Lib.hid (HI.out.below hb)
        have HO2 := Lib.hid ho.reads
        clear hb ho hc0
        by_cases hlong : 4096 < m
        · go_wp2_with fail
          refine (seal_long A2 m c2 w2 hlong).mono ?_
          rintro e w3 ⟨rfl, rfl⟩
          go_wp2_with fail
          go_roundw
          case rel => exact ⟨i + 1, gl, gv, Ab, cb, Ag, cg, Ae, ce, by go_num, by omega, by omega, by omega, rfl, rfl, rfl, HI2.out⟩
          case measure => simp [intOf]; omega
        · go_wp2_with fail
          refine (seal_any A2 m c2 p w2 HO2.out (by omega)).mono ?_
          rintro e w3 ⟨A3, c3, rfl, ho, hb⟩
          have hsl := sealL_length p
          have hul := uintL_len64 (n := p.length) (by have := HM.out; omega)
          have hs4 : (sealL p).length ≤ 4120 := by have := HM.out; omega
          clear hsl hul
          have HI3 := Lib.hid (HI2.out.below hb)
          have HO3 := Lib.hid ho.reads
          clear hb ho
          go_wp2_with (at_builtin; refine halt_ ?_)
          refine unhalt ?_
          refine wpList_app elem_u8 HI3.out.b HO3.out (u8s_one (sealL p)) (by omega) HI3.out.o.size _ _ rfl rfl rfl rfl ?_
          intro A4 c4 w4 ho4 hup4 hat4
          rw [← u8s_append] at ho4
          obtain ⟨sn, hsn⟩ : ∃ sn, sn = (seals gl).length + (sealL p).length := ⟨_, rfl⟩
          rw [← hsn] at ho4 ⊢
          have hsn2 : sn ≤ 4120 * 41 := by omega
          have hb4 := below_app HI3.out.o HI3.out.o.size HI3.out.b (Nat.le_refl _) hup4
          have HG4 := Lib.hid (HI3.out.g.upd hup4 (fun g hg e => HI3.out.g.apart HI3.out.b (by decide) g hg e))
          have HE4 := Lib.hid (HI3.out.e.upd hup4 (fun g hg e => HI3.out.e.apart HI3.out.b (by decide) g hg e))
          have HO4 := Lib.hid ho4
          have HB4 := Lib.hid hb4
          have hz4 := hb4.size
          have hc4 := HQ.out w4 hb4
          have HSN := Lib.hid hsn
          clear ho4 hb4 hup4 hat4 hsn
          go_wp2_with (at_builtin; refine halt_ ?_)
          refine unhalt ?_
          refine wpList_app elem_rows (HG4.out.alloc _) (reads_new (cs := #[_]) w4 23 1 rfl) (by simp [Value.oneCell']) (by omega) (by simp; omega) _ _ rfl rfl rfl rfl ?_
          intro A5 c5 w5 ho5 hup5 hat5
          have hb5 := below_app (HB4.out.alloc HB4.out.size _) (by simp; omega) (HG4.out.alloc _) (Nat.le_refl _) hup5
          have HO5 := Lib.hid ((HO4.out.alloc _).upd hup5 (fun g hg e => HO4.out.apart HG4.out (by decide) g hg e))
          have HE5 := Lib.hid ((HE4.out.alloc _).upd hup5 (fun g hg e => HE4.out.apart HG4.out (by decide) g hg e))
          have HG5 := Lib.hid ho5
          have HB5 := Lib.hid hb5
          have hz5 := hb5.size
          clear ho5 hb5 hup5 hat5 hc4
          go_wp2_with (at_builtin; refine halt_ ?_)
          refine unhalt ?_
          refine wpList_app elem_ints (HE5.out.alloc _) (reads_new (cs := #[_]) w5 3 1 rfl) (by simp [Value.oneCell']) (by omega) (by simp; omega) _ _ rfl rfl rfl rfl ?_
          intro A6 c6 w6 ho6 hup6 hat6
          have HB6 := Lib.hid (below_app (HB5.out.alloc HB5.out.size _) (by simp; omega) (HE5.out.alloc _) (Nat.le_refl _) hup6)
          have HO6 := Lib.hid ((HO5.out.alloc _).upd hup6 (fun g hg e => HO5.out.apart HE5.out (by decide) g hg e))
          have HG6 := Lib.hid ((HG5.out.alloc _).upd hup6 (fun g hg e => HG5.out.apart HE5.out (by decide) g hg e))
          have HE6 := Lib.hid ho6
          clear ho6 hup6 hat6
          go_wp2_with fail
          have hse : (seals (gl ++ [p])).length = sn := by rw [seals_snoc, List.length_append, HSN.out]
          have HSE := Lib.hid hse
          clear hse
          go_roundw
          case rel =>
            refine ⟨i + 1, gl ++ [p], gv ++ [.slice A1 m c1], A4, c4, A5, c5, A6, c6, by go_num, by omega, by omega, by simp; omega, by rw [HSE.out], by simp, by simp, ⟨?_, ?_, ?_, ?_, ?_, HB6.out⟩⟩
            · rw [HSE.out, seals_snoc]; exact HO6.out
            · simpa using HG6.out
            · rw [endsL_snoc, HSE.out, ints_append]; simpa [ints] using HE6.out
            · rw [HM.out]; exact HI.out.r.snoc (by rw [← HM.out]; exact HRD.out)
            · intro q hq
              rcases List.mem_append.1 hq with hq | hq
              · exact HI.out.s q hq
              · rw [List.mem_singleton.1 hq]; have := HM.out; omega
          case measure => simp [intOf]; omega
      · skip
        obtain ⟨S, hS⟩ : ∃ S, S = (seals gl).length := ⟨_, rfl⟩
        rw [← hS] at hsb ⊢
        have HS := Lib.hid hS
        clear hS
        obtain ⟨v, hv, hv0, hv1, -⟩ := umod x ((S : Int) + 1) (by omega) (by omega)
        obtain ⟨v, rfl⟩ := Int.eq_ofNat_of_zero_le hv0
        have hvS : v ≤ S := by omega
        have hSc := HI.out.b.le
        rw [← HS.out] at hSc
        have hKB : Keeps wr (fun w' => Below w.heap.size w w' ∧ Reads w' w'.heap.size 1 Ab S (u8s (seals gl)) ∧ Reads w' w'.heap.size 1 Ag gl.length gv ∧ RowsR w' gv gl) := by
          have h1 := HI.out.b.keepsR
          rw [← HS.out] at h1
          exact (below_keeps HI.out.o HI.out.o.size).and (h1.and (HI.out.g.keepsR.and ((HI.out.r.keeps).on HI.out.o)))
        have HKB := Lib.hid hKB
        have hg40 : gl.length ≤ 40 := by omega
        have hsh := cut_high (P := Try.prog) (hi := v) (c := cb) (n := S) Try.underlying23 size_u8 Ab (by omega)
        clear hKB hgl hin hi40
        go_wp2_with fail
        clear hv hv0 hv1
        obtain ⟨wo, hwo⟩ : ∃ wo : World, wo = wr := ⟨_, rfl⟩
        rw [← hwo] at HI HKB ⊢
        clear hwo
        go_loop [11, 12] (fun kv wv => ∃ k : Nat, kv = .int .i64 k ∧ k ≤ gl.length ∧ wv = .int .i64 ((seals (gl.take k)).length : Int) ∧ (seals (gl.take k)).length ≤ v) (fun kv _ => gl.length - (intOf kv).toNat)
        case atStart => exact ⟨0, rfl, by omega, by simp [seals], by simp [seals]⟩
        case round =>
          obtain ⟨k, rfl, hk, rfl, hwv⟩ := hrel
          obtain ⟨W, hW⟩ : ∃ W, W = (seals (gl.take k)).length := ⟨_, rfl⟩
          rw [← hW] at hwv ⊢
          have HW := Lib.hid hW
          clear hW
          by_cases hkl : (k : Int) < (gl.length : Int)
          · obtain ⟨ge, rfl, -, -, hge1, -⟩ := HI.out.e.some_ (by omega)
            have hcell := HI.out.e.cell rfl (j := k) (u := .int .i64 ((seals (gl.take (k + 1))).length : Int)) (by
              rw [ints_get, ← endsL_get gl (by omega), List.getD_eq_getElem?_getD, List.getElem?_eq_getElem (by rw [endsL_length]; omega)]
              rfl)
            obtain ⟨E, hE⟩ : ∃ E, E = (seals (gl.take (k + 1))).length := ⟨_, rfl⟩
            rw [← hE] at hcell
            have HE := Lib.hid hE
            have hk0 : (0 : Int) ≤ (k : Int) := by omega
            clear hE
            by_cases hEv : (E : Int) ≤ (v : Int)
            · go_wp2_with fail
              go_round
              case rel => exact ⟨k + 1, by go_num, by omega, by rw [HE.out], by rw [← HE.out]; omega⟩
              case measure => simp [intOf]; omega
            · have hnext : ∀ p, gl[k]? = some p → v < W + (sealL p).length := by
                intro p hp
                have h1 := congrArg List.length (seals_take hp)
                rw [List.length_append, ← HE.out, ← HW.out] at h1
                omega
              have HNX := Lib.hid hnext
              clear hnext
              have hsc := scanF_cut gl k v HI.out.s hk (by rw [← HW.out]; exact hwv) (by rw [← HW.out]; exact HNX.out) (by rw [← HS.out]; exact hvS)
              rw [← HW.out] at hsc
              have hsa := scanF_seals gl HI.out.s
              rw [← HS.out] at hsa
              have HSC := Lib.hid (And.intro hsc hsa)
              clear hsc hsa
              go_wp2_with fail
              have hrt := HKB.out.now.2.1.take (k := v) hvS
              rw [Nat.mul_one, u8s_take] at hrt
              refine (own_any Ab v cb _ wo hrt (by omega)).mono ?_
              rintro e w2 ⟨A2, c2, rfl, ho, hb⟩
              have HK2 := Lib.hid ((HKB.out.on hb).and ho.keepsR)
              have hle2 := ho.le
              have hcl2 := ho.capLe
              clear ho hb hrt
              go_wp2_with fail
              refine (scan_any A2 v c2 _ w2 HK2.out.now.2 hle2 hcl2 (by omega)).mono ?_
              rw [HSC.out.1]
              dsimp only
              rw [show (gl.take k).length = k by rw [List.length_take]; omega]
              rintro e w3 ⟨D3, d3, vs3, rfl, ho, hr, hb⟩
              have HK3 := Lib.hid ((HK2.out.fst.on hb).and (ho.keepsR.and hr.reads.keeps))
              clear ho hb hr
              go_wp2_with fail
              refine (own_any Ab S cb _ w3 HK3.out.now.1.2.1 (by omega)).mono ?_
              rintro e w4 ⟨A4, c4, rfl, ho, hb⟩
              have HK4 := Lib.hid ((HK3.out.on hb).and ho.keepsR)
              have hle4 := ho.le
              have hcl4 := ho.capLe
              clear ho hb
              go_wp2_with fail
              refine (scan_any A4 S c4 _ w4 HK4.out.now.2 hle4 hcl4 (by omega)).mono ?_
              rw [HSC.out.2]
              dsimp only
              rintro e w5 ⟨D5, d5, vs5, rfl, ho, hr, hb⟩
              have HK5 := Lib.hid ((HK4.out.fst.on hb).and (ho.keepsR.and hr.reads.keeps))
              clear ho hb hr
              have hgc := HI.out.g.le
              have hsg := cut_high (P := Try.prog) (n := gl.length) (hi := k) (c := cg) Try.underlying48 size_rows Ag (by omega)
              go_wp2_with fail
              have hgk := HK5.out.now.1.1.2.2.1.take (k := k) hk
              rw [Nat.mul_one] at hgk
              refine (same_any D3 Ag k d3 k cg vs3 (gv.take k) (gl.take k) (gl.take k) w5 HK5.out.now.1.2.1 HK5.out.now.1.2.2 hgk (HK5.out.now.1.1.2.2.2.take k) (by omega) (by omega)).mono ?_
              rintro e w6 ⟨rfl, hb⟩
              have HK6 := Lib.hid (HK5.out.on hb)
              clear hb hgk
              go_wp2_with fail
              refine (same_any D5 Ag gl.length d5 gl.length cg vs5 gv gl gl w6 HK6.out.now.2.1 HK6.out.now.2.2 HK6.out.now.1.1.2.2.1 HK6.out.now.1.1.2.2.2 (by omega) (by omega)).mono ?_
              rintro e w7 ⟨rfl, hb⟩
              have HB7 := Lib.hid (HK6.out.on hb).now.1.1.1
              clear hb
              go_wp2_with fail
              go_ret
              exact ⟨by simp, HB7.out⟩
          · have hnext : ∀ p, gl[k]? = some p → v < W + (sealL p).length := by
              intro p hp
              rw [List.getElem?_eq_none (by omega)] at hp
              cases hp
            have HNX := Lib.hid hnext
            clear hnext
            have hsc := scanF_cut gl k v HI.out.s hk (by rw [← HW.out]; exact hwv) (by rw [← HW.out]; exact HNX.out) (by rw [← HS.out]; exact hvS)
            rw [← HW.out] at hsc
            have hsa := scanF_seals gl HI.out.s
            rw [← HS.out] at hsa
            have HSC := Lib.hid (And.intro hsc hsa)
            clear hsc hsa
            go_wp2_with fail
            have hrt := HKB.out.now.2.1.take (k := v) hvS
            rw [Nat.mul_one, u8s_take] at hrt
            refine (own_any Ab v cb _ wo hrt (by omega)).mono ?_
            rintro e w2 ⟨A2, c2, rfl, ho, hb⟩
            have HK2 := Lib.hid ((HKB.out.on hb).and ho.keepsR)
            have hle2 := ho.le
            have hcl2 := ho.capLe
            clear ho hb hrt
            go_wp2_with fail
            refine (scan_any A2 v c2 _ w2 HK2.out.now.2 hle2 hcl2 (by omega)).mono ?_
            rw [HSC.out.1]
            dsimp only
            rw [show (gl.take k).length = k by rw [List.length_take]; omega]
            rintro e w3 ⟨D3, d3, vs3, rfl, ho, hr, hb⟩
            have HK3 := Lib.hid ((HK2.out.fst.on hb).and (ho.keepsR.and hr.reads.keeps))
            clear ho hb hr
            go_wp2_with fail
            refine (own_any Ab S cb _ w3 HK3.out.now.1.2.1 (by omega)).mono ?_
            rintro e w4 ⟨A4, c4, rfl, ho, hb⟩
            have HK4 := Lib.hid ((HK3.out.on hb).and ho.keepsR)
            have hle4 := ho.le
            have hcl4 := ho.capLe
            clear ho hb
            go_wp2_with fail
            refine (scan_any A4 S c4 _ w4 HK4.out.now.2 hle4 hcl4 (by omega)).mono ?_
            rw [HSC.out.2]
            dsimp only
            rintro e w5 ⟨D5, d5, vs5, rfl, ho, hr, hb⟩
            have HK5 := Lib.hid ((HK4.out.fst.on hb).and (ho.keepsR.and hr.reads.keeps))
            clear ho hb hr
            have hgc := HI.out.g.le
            have hsg := cut_high (P := Try.prog) (n := gl.length) (hi := k) (c := cg) Try.underlying48 size_rows Ag (by omega)
            go_wp2_with fail
            have hgk := HK5.out.now.1.1.2.2.1.take (k := k) hk
            rw [Nat.mul_one] at hgk
            refine (same_any D3 Ag k d3 k cg vs3 (gv.take k) (gl.take k) (gl.take k) w5 HK5.out.now.1.2.1 HK5.out.now.1.2.2 hgk (HK5.out.now.1.1.2.2.2.take k) (by omega) (by omega)).mono ?_
            rintro e w6 ⟨rfl, hb⟩
            have HK6 := Lib.hid (HK5.out.on hb)
            clear hb hgk
            go_wp2_with fail
            refine (same_any D5 Ag gl.length d5 gl.length cg vs5 gv gl gl w6 HK6.out.now.2.1 HK6.out.now.2.2 HK6.out.now.1.1.2.2.1 HK6.out.now.1.1.2.2.2 (by omega) (by omega)).mono ?_
            rintro e w7 ⟨rfl, hb⟩
            have HB7 := Lib.hid (HK6.out.on hb).now.1.1.1
            clear hb
            go_wp2_with fail
            go_ret
            exact ⟨by simp, HB7.out⟩
    · skip
      obtain ⟨S, hS⟩ : ∃ S, S = (seals gl).length := ⟨_, rfl⟩
      rw [← hS] at hsb ⊢
      have HS := Lib.hid hS
      clear hS
      obtain ⟨v, hv, hv0, hv1, -⟩ := umod x ((S : Int) + 1) (by omega) (by omega)
      obtain ⟨v, rfl⟩ := Int.eq_ofNat_of_zero_le hv0
      have hvS : v ≤ S := by omega
      have hSc := HI.out.b.le
      rw [← HS.out] at hSc
      have hKB : Keeps wr (fun w' => Below w.heap.size w w' ∧ Reads w' w'.heap.size 1 Ab S (u8s (seals gl)) ∧ Reads w' w'.heap.size 1 Ag gl.length gv ∧ RowsR w' gv gl) := by
        have h1 := HI.out.b.keepsR
        rw [← HS.out] at h1
        exact (below_keeps HI.out.o HI.out.o.size).and (h1.and (HI.out.g.keepsR.and ((HI.out.r.keeps).on HI.out.o)))
      have HKB := Lib.hid hKB
      have hg40 : gl.length ≤ 40 := by omega
      have hsh := cut_high (P := Try.prog) (hi := v) (c := cb) (n := S) Try.underlying23 size_u8 Ab (by omega)
      clear hKB hgl hin hi40
      go_wp2_with fail
      clear hv hv0 hv1
      obtain ⟨wo, hwo⟩ : ∃ wo : World, wo = wr := ⟨_, rfl⟩
      rw [← hwo] at HI HKB ⊢
      clear hwo
      go_loop [11, 12] (fun kv wv => ∃ k : Nat, kv = .int .i64 k ∧ k ≤ gl.length ∧ wv = .int .i64 ((seals (gl.take k)).length : Int) ∧ (seals (gl.take k)).length ≤ v) (fun kv _ => gl.length - (intOf kv).toNat)
      case atStart => exact ⟨0, rfl, by omega, by simp [seals], by simp [seals]⟩
      case round =>
        obtain ⟨k, rfl, hk, rfl, hwv⟩ := hrel
        obtain ⟨W, hW⟩ : ∃ W, W = (seals (gl.take k)).length := ⟨_, rfl⟩
        rw [← hW] at hwv ⊢
        have HW := Lib.hid hW
        clear hW
        by_cases hkl : (k : Int) < (gl.length : Int)
        · obtain ⟨ge, rfl, -, -, hge1, -⟩ := HI.out.e.some_ (by omega)
          have hcell := HI.out.e.cell rfl (j := k) (u := .int .i64 ((seals (gl.take (k + 1))).length : Int)) (by
            rw [ints_get, ← endsL_get gl (by omega), List.getD_eq_getElem?_getD, List.getElem?_eq_getElem (by rw [endsL_length]; omega)]
            rfl)
          obtain ⟨E, hE⟩ : ∃ E, E = (seals (gl.take (k + 1))).length := ⟨_, rfl⟩
          rw [← hE] at hcell
          have HE := Lib.hid hE
          have hk0 : (0 : Int) ≤ (k : Int) := by omega
          clear hE
          by_cases hEv : (E : Int) ≤ (v : Int)
          · go_wp2_with fail
            go_round
            case rel => exact ⟨k + 1, by go_num, by omega, by rw [HE.out], by rw [← HE.out]; omega⟩
            case measure => simp [intOf]; omega
          · have hnext : ∀ p, gl[k]? = some p → v < W + (sealL p).length := by
              intro p hp
              have h1 := congrArg List.length (seals_take hp)
              rw [List.length_append, ← HE.out, ← HW.out] at h1
              omega
            have HNX := Lib.hid hnext
            clear hnext
            have hsc := scanF_cut gl k v HI.out.s hk (by rw [← HW.out]; exact hwv) (by rw [← HW.out]; exact HNX.out) (by rw [← HS.out]; exact hvS)
            rw [← HW.out] at hsc
            have hsa := scanF_seals gl HI.out.s
            rw [← HS.out] at hsa
            have HSC := Lib.hid (And.intro hsc hsa)
            clear hsc hsa
            go_wp2_with fail
            have hrt := HKB.out.now.2.1.take (k := v) hvS
            rw [Nat.mul_one, u8s_take] at hrt
            refine (own_any Ab v cb _ wo hrt (by omega)).mono ?_
            rintro e w2 ⟨A2, c2, rfl, ho, hb⟩
            have HK2 := Lib.hid ((HKB.out.on hb).and ho.keepsR)
            have hle2 := ho.le
            have hcl2 := ho.capLe
            clear ho hb hrt
            go_wp2_with fail
            refine (scan_any A2 v c2 _ w2 HK2.out.now.2 hle2 hcl2 (by omega)).mono ?_
            rw [HSC.out.1]
            dsimp only
            rw [show (gl.take k).length = k by rw [List.length_take]; omega]
            rintro e w3 ⟨D3, d3, vs3, rfl, ho, hr, hb⟩
            have HK3 := Lib.hid ((HK2.out.fst.on hb).and (ho.keepsR.and hr.reads.keeps))
            clear ho hb hr
            go_wp2_with fail
            refine (own_any Ab S cb _ w3 HK3.out.now.1.2.1 (by omega)).mono ?_
            rintro e w4 ⟨A4, c4, rfl, ho, hb⟩
            have HK4 := Lib.hid ((HK3.out.on hb).and ho.keepsR)
            have hle4 := ho.le
            have hcl4 := ho.capLe
            clear ho hb
            go_wp2_with fail
            refine (scan_any A4 S c4 _ w4 HK4.out.now.2 hle4 hcl4 (by omega)).mono ?_
            rw [HSC.out.2]
            dsimp only
            rintro e w5 ⟨D5, d5, vs5, rfl, ho, hr, hb⟩
            have HK5 := Lib.hid ((HK4.out.fst.on hb).and (ho.keepsR.and hr.reads.keeps))
            clear ho hb hr
            have hgc := HI.out.g.le
            have hsg := cut_high (P := Try.prog) (n := gl.length) (hi := k) (c := cg) Try.underlying48 size_rows Ag (by omega)
            go_wp2_with fail
            have hgk := HK5.out.now.1.1.2.2.1.take (k := k) hk
            rw [Nat.mul_one] at hgk
            refine (same_any D3 Ag k d3 k cg vs3 (gv.take k) (gl.take k) (gl.take k) w5 HK5.out.now.1.2.1 HK5.out.now.1.2.2 hgk (HK5.out.now.1.1.2.2.2.take k) (by omega) (by omega)).mono ?_
            rintro e w6 ⟨rfl, hb⟩
            have HK6 := Lib.hid (HK5.out.on hb)
            clear hb hgk
            go_wp2_with fail
            refine (same_any D5 Ag gl.length d5 gl.length cg vs5 gv gl gl w6 HK6.out.now.2.1 HK6.out.now.2.2 HK6.out.now.1.1.2.2.1 HK6.out.now.1.1.2.2.2 (by omega) (by omega)).mono ?_
            rintro e w7 ⟨rfl, hb⟩
            have HB7 := Lib.hid (HK6.out.on hb).now.1.1.1
            clear hb
            go_wp2_with fail
            go_ret
            exact ⟨by simp, HB7.out⟩
        · have hnext : ∀ p, gl[k]? = some p → v < W + (sealL p).length := by
            intro p hp
            rw [List.getElem?_eq_none (by omega)] at hp
            cases hp
          have HNX := Lib.hid hnext
          clear hnext
          have hsc := scanF_cut gl k v HI.out.s hk (by rw [← HW.out]; exact hwv) (by rw [← HW.out]; exact HNX.out) (by rw [← HS.out]; exact hvS)
          rw [← HW.out] at hsc
          have hsa := scanF_seals gl HI.out.s
          rw [← HS.out] at hsa
          have HSC := Lib.hid (And.intro hsc hsa)
          clear hsc hsa
          go_wp2_with fail
          have hrt := HKB.out.now.2.1.take (k := v) hvS
          rw [Nat.mul_one, u8s_take] at hrt
          refine (own_any Ab v cb _ wo hrt (by omega)).mono ?_
          rintro e w2 ⟨A2, c2, rfl, ho, hb⟩
          have HK2 := Lib.hid ((HKB.out.on hb).and ho.keepsR)
          have hle2 := ho.le
          have hcl2 := ho.capLe
          clear ho hb hrt
          go_wp2_with fail
          refine (scan_any A2 v c2 _ w2 HK2.out.now.2 hle2 hcl2 (by omega)).mono ?_
          rw [HSC.out.1]
          dsimp only
          rw [show (gl.take k).length = k by rw [List.length_take]; omega]
          rintro e w3 ⟨D3, d3, vs3, rfl, ho, hr, hb⟩
          have HK3 := Lib.hid ((HK2.out.fst.on hb).and (ho.keepsR.and hr.reads.keeps))
          clear ho hb hr
          go_wp2_with fail
          refine (own_any Ab S cb _ w3 HK3.out.now.1.2.1 (by omega)).mono ?_
          rintro e w4 ⟨A4, c4, rfl, ho, hb⟩
          have HK4 := Lib.hid ((HK3.out.on hb).and ho.keepsR)
          have hle4 := ho.le
          have hcl4 := ho.capLe
          clear ho hb
          go_wp2_with fail
          refine (scan_any A4 S c4 _ w4 HK4.out.now.2 hle4 hcl4 (by omega)).mono ?_
          rw [HSC.out.2]
          dsimp only
          rintro e w5 ⟨D5, d5, vs5, rfl, ho, hr, hb⟩
          have HK5 := Lib.hid ((HK4.out.fst.on hb).and (ho.keepsR.and hr.reads.keeps))
          clear ho hb hr
          have hgc := HI.out.g.le
          have hsg := cut_high (P := Try.prog) (n := gl.length) (hi := k) (c := cg) Try.underlying48 size_rows Ag (by omega)
          go_wp2_with fail
          have hgk := HK5.out.now.1.1.2.2.1.take (k := k) hk
          rw [Nat.mul_one] at hgk
          refine (same_any D3 Ag k d3 k cg vs3 (gv.take k) (gl.take k) (gl.take k) w5 HK5.out.now.1.2.1 HK5.out.now.1.2.2 hgk (HK5.out.now.1.1.2.2.2.take k) (by omega) (by omega)).mono ?_
          rintro e w6 ⟨rfl, hb⟩
          have HK6 := Lib.hid (HK5.out.on hb)
          clear hb hgk
          go_wp2_with fail
          refine (same_any D5 Ag gl.length d5 gl.length cg vs5 gv gl gl w6 HK6.out.now.2.1 HK6.out.now.2.2 HK6.out.now.1.1.2.2.1 HK6.out.now.1.1.2.2.2 (by omega) (by omega)).mono ?_
          rintro e w7 ⟨rfl, hb⟩
          have HB7 := Lib.hid (HK6.out.on hb).now.1.1.1
          clear hb
          go_wp2_with fail
          go_ret
          exact ⟨by simp, HB7.out⟩

theorem torn_vals (W : World) (args : Array Value) (hv : Vals Try.prog W [48, 3] args.toList) :
    Calls Try.prog 9 args W fun e W' => e = .returned (.bool true) ∧ Below W.heap.size W W' := by
  obtain ⟨v0, r0, e0, h0, v1, r1, rfl, h1, rfl⟩ := hv
  obtain rfl : args = #[v0, v1] := by cases args; simp_all
  obtain ⟨A, n, c, vs, ls, rfl, hr, hrs, hl, hn, hc⟩ := val_rows h0
  obtain ⟨x, rfl, _⟩ := val_int Try.underlying3 h1
  exact torn_walk A n c vs ls x W hr hrs hl (Nat.le_trans hn hc)

set_option maxRecDepth 100000 in
theorem torn_lifted (os : Os) (started : os.Started) (H : Type) (enc : TypeId × Value → H) :
    ReturnsInHanded {} Try.checked os 9 .any (Rows.frameTornSpec.pre6 enc Try.prog Try.f9 Rows.frameTornRow.domain false) (Rows.frameTornSpec.post enc Try.prog Try.f9 false true false false) :=
  lift_law (C := Try.checked) #[48, 3] (by kernel_rfl) (by kernel_rfl) started (by kernel_rfl) Try.func9
    (ChangeSpec.witness6 (enc := enc) (C := Try.checked) false ⟨#[], #[.slice none 0 0, .int .i64 0], []⟩ 8 (by kernel_rfl) (by kernel_rfl) (by kernel_rfl) (by kernel_rfl))
    Try.params9 (by kernel_rfl) rfl rfl Try.underlying4 (fun ds hl => match ds, hl with | [_, _], _ => rfl) (fun W args hv => torn_vals W args hv)

theorem torn_holds : Rows.FrameTornSaid :=
  OpenClaim.holds_of_wide 9 Try.f9 rfl rfl rfl rfl rfl rfl rfl ⟨rfl, rfl, rfl, rfl, rfl⟩ rfl rfl rfl rfl rfl (by kernel_rfl) Try.func9 (by kernel_rfl)
    (of_decide_eq_true (by kernel_rfl)) (by unfold Func.isWrapper; rw [if_neg (of_decide_eq_false (by kernel_rfl))]; exact ⟨rfl, rfl⟩)
    (fun os started H enc _ => torn_lifted os started H enc)
end Go.Proofs.Ytcdaioljddaopaa
