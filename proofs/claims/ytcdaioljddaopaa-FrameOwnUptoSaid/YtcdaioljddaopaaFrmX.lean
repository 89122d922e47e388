/- walk: convoyref01.Same -/
import Derived.Test.YtcdaioljddaopaaFrmU
namespace Go.Proofs.Ytcdaioljddaopaa
open Go.RowKit

/-- Slices of bytes, to be read. -/
structure RowsR (w : World) (vs : List Value) (ls : List (List UInt8)) : Prop where
  len : vs.length = ls.length
  row : ∀ (i : Nat) v l, vs[i]? = some v → ls[i]? = some l → ∃ A c, v = .slice A l.length c ∧ Reads w w.heap.size 1 A l.length (u8s l)
section
variable {w w' : World} {base : Nat} {vs : List Value} {ls : List (List UInt8)}
theorem OwnRows.reads (h : OwnRows w base vs ls) : RowsR w vs ls :=
  ⟨h.len, fun i v l hv hl => let ⟨A, c, e, h1⟩ := h.row i v l hv hl; ⟨A, c, e, h1.reads⟩⟩
theorem RowsR.below (h : RowsR w vs ls) (hb : Below w.heap.size w w') : RowsR w' vs ls :=
  ⟨h.len, fun i v l hv hl => let ⟨A, c, e, h1⟩ := h.row i v l hv hl; ⟨A, c, e, (h1.below hb).more hb.size⟩⟩
theorem RowsR.keeps (h : RowsR w vs ls) : Keeps w (fun w => RowsR w vs ls) := fun _ hb => h.below hb
theorem RowsR.get (h : RowsR w vs ls) {k : Nat} (hk : k < ls.length) : ∃ A c, vs[k]? = some (.slice A (ls.getD k []).length c) ∧ Reads w w.heap.size 1 A (ls.getD k []).length (u8s (ls.getD k [])) := by
  have hv : k < vs.length := by rw [h.len]; exact hk
  obtain ⟨A, c, e, hr⟩ := h.row k _ _ (List.getElem?_eq_getElem hv) (List.getElem?_eq_getElem hk)
  have e2 : ls.getD k [] = ls[k] := by simp [List.getD, List.getElem?_eq_getElem hk]
  rw [e2]
  exact ⟨A, c, by rw [List.getElem?_eq_getElem hv, e], hr⟩
end
theorem take_eq_next {α : Type} {xs ys : List α} {k : Nat} {z : α} (h : xs.take k = ys.take k) (hx : k < xs.length) (hy : k < ys.length) (e : xs.getD k z = ys.getD k z) : xs.take (k + 1) = ys.take (k + 1) := by
  rw [List.take_succ_eq_append_getElem hx, List.take_succ_eq_append_getElem hy, h]
  simp only [List.getD, List.getElem?_eq_getElem hx, List.getElem?_eq_getElem hy, Option.getD_some] at e
  rw [e]

set_option maxRecDepth 100000 in
set_option maxHeartbeats 4000000 in
theorem same_any (A D : Option Addr) (n c m d : Nat) (vs us : List Value) (xs ys : List (List UInt8)) (w : World) (hx : Reads w w.heap.size 1 A n vs) (hxs : RowsR w vs xs) (hy : Reads w w.heap.size 1 D m us) (hys : RowsR w us ys) (hn : n ≤ 17592186044415) (hm : m ≤ 17592186044415) :
    Calls Try.prog 29 #[.slice A n c, .slice D m d] w fun e w' => e = .returned (.bool (decide (xs = ys))) ∧ Below w.heap.size w w' := by
  have lx : xs.length = n := by have := hx.1; have := hxs.len; omega
  have ly : ys.length = m := by have := hy.1; have := hys.len; omega
  have LX := Lib.hid lx
  have LY := Lib.hid ly
  have HK := Lib.hid (((hx.keeps (Nat.le_refl _)).and hxs.keeps).and ((hy.keeps (Nat.le_refl _)).and hys.keeps))
  clear lx ly hx hy hxs hys
  by_cases hnm : n = m
  · subst hnm
    go_enter Try.func29, Try.ntmps29
    go_wp2_with fail
    go_loopw [13] (fun iv wr => ∃ k : Nat, iv = .int .i64 k ∧ k ≤ n ∧ xs.take k = ys.take k ∧ Below w.heap.size w wr) (fun iv _ => n - (intOf iv).toNat)
    case atStart => exact ⟨0, rfl, by omega, by simp, Below.refl _ _⟩
    case round =>
      obtain ⟨k, rfl, hk, htk, hb⟩ := hrel
      have HT := Lib.hid htk
      have HB := Lib.hid hb
      have HK1 := Lib.hid (HK.out.on hb)
      clear htk hb
      by_cases hlt : k < n
      · have h0 : (0 : Int) ≤ (k : Int) := by omega
        have h1 : (k : Int) < (n : Int) := by omega
        have hcx : ∃ ax A1 c1, A = some ax ∧ Keeps wr (fun w' => w'.cell? (ax.add k) = some (.slice A1 (xs.getD k []).length c1) ∧ Reads w' w'.heap.size 1 A1 (xs.getD k []).length (u8s (xs.getD k []))) := by
          obtain ⟨A1, c1, hv, hr⟩ := HK1.out.now.1.2.get (k := k) (by rw [LX.out]; exact hlt)
          obtain ⟨ax, u, rfl, hbk, hu, hc⟩ := HK1.out.now.1.1.at_ hlt
          rw [hv] at hu
          injection hu with hu
          subst hu
          exact ⟨ax, A1, c1, rfl, fun w' hb => ⟨by rw [hb.cell (by rw [block_of_add]; exact hbk)]; exact hc, (hr.keeps (Nat.le_refl _)).at_ hb⟩⟩
        have hcy : ∃ ay A2 c2, D = some ay ∧ Keeps wr (fun w' => w'.cell? (ay.add k) = some (.slice A2 (ys.getD k []).length c2) ∧ Reads w' w'.heap.size 1 A2 (ys.getD k []).length (u8s (ys.getD k []))) := by
          obtain ⟨A1, c1, hv, hr⟩ := HK1.out.now.2.2.get (k := k) (by rw [LY.out]; exact hlt)
          obtain ⟨ax, u, rfl, hbk, hu, hc⟩ := HK1.out.now.2.1.at_ hlt
          rw [hv] at hu
          injection hu with hu
          subst hu
          exact ⟨ax, A1, c1, rfl, fun w' hb => ⟨by rw [hb.cell (by rw [block_of_add]; exact hbk)]; exact hc, (hr.keeps (Nat.le_refl _)).at_ hb⟩⟩
        obtain ⟨ax, A1, c1, rfl, hkx⟩ := hcx
        obtain ⟨ay, A2, c2, rfl, hky⟩ := hcy
        obtain ⟨x, hx⟩ : ∃ x, x = xs.getD k [] := ⟨_, rfl⟩
        obtain ⟨y, hy⟩ : ∃ y, y = ys.getD k [] := ⟨_, rfl⟩
        rw [← hx] at hkx
        rw [← hy] at hky
        have EX := Lib.hid hx
        have EY := Lib.hid hy
        have HX := Lib.hid hkx
        have HY := Lib.hid hky
        clear hx hy hkx hky
        go_wp2_with fail
        refine wp_region_noPanic ?_
        refine wp_region_held_drew (S := fun w' => Below wr.heap.size wr w') (by kernel_rfl) (below_drew wr) (fun hH => ?_)
        refine wpAnyH_take (i := 0) (oi := _) (v := ?_) (by simp only [List.getElem?_toArray, List.getElem?_cons_zero]; rfl) (by kernel_rfl) (by kernel_rfl) (by kernel_rfl) (fun _ _ _ h => h) (Or.inl ⟨by rfl, ?_⟩) (by assumption) ?_
        rotate_left
        · intro w' hSw; (try dsimp only at hSw); go_simp; try with_reducible rfl
        try simp only [Act.put, List.setIfInBounds_toArray, List.set_cons_zero, List.set_cons_succ]
        refine wpAnyH_take (i := 1) (oi := _) (v := ?_) (by simp only [List.getElem?_toArray, List.getElem?_cons_zero, List.getElem?_cons_succ]; rfl) (by kernel_rfl) (by kernel_rfl) (by kernel_rfl) (fun _ _ _ h => h) (Or.inl ⟨by rfl, ?_⟩) (by assumption) ?_
        rotate_left
        · intro w' hSw; (try dsimp only at hSw); go_simp; try with_reducible rfl
        try simp only [Act.put, List.setIfInBounds_toArray, List.set_cons_zero, List.set_cons_succ]
        refine wpAnyH_take (i := 2) (oi := _) (v := ?_) (by simp only [List.getElem?_toArray, List.getElem?_cons_zero, List.getElem?_cons_succ]; rfl) (by kernel_rfl) (by kernel_rfl) (by kernel_rfl) (fun _ _ _ h => h) (Or.inl ⟨by rfl, ?_⟩) (by assumption) ?_
        rotate_left
        · intro w' hSw; (try dsimp only at hSw); go_simp; try with_reducible rfl
        try simp only [Act.put, List.setIfInBounds_toArray, List.set_cons_zero, List.set_cons_succ]
        refine wpAnyH_take (i := 3) (oi := _) (v := ?_) (by simp only [List.getElem?_toArray, List.getElem?_cons_zero, List.getElem?_cons_succ]; rfl) (by kernel_rfl) (by kernel_rfl) (by kernel_rfl) (fun _ _ _ h => h) (Or.inl ⟨by rfl, ?_⟩) (by assumption) ?_
        rotate_left
        · intro w' hSw; (try dsimp only at hSw); have hf := (HX.out.at_ hSw).1; go_simp; try with_reducible rfl
        try simp only [Act.put, List.setIfInBounds_toArray, List.set_cons_zero, List.set_cons_succ]
        refine wpAnyH_take (i := 4) (oi := _) (v := ?_) (by simp only [List.getElem?_toArray, List.getElem?_cons_zero, List.getElem?_cons_succ]; rfl) (by kernel_rfl) (by kernel_rfl) (by kernel_rfl) (fun _ _ _ h => h) (Or.inl ⟨by rfl, ?_⟩) (by assumption) ?_
        rotate_left
        · intro w' hSw; (try dsimp only at hSw); have hf := str_u8 (c := c1) (HX.out.at_ hSw).2; go_simp; try with_reducible rfl
        try simp only [Act.put, List.setIfInBounds_toArray, List.set_cons_zero, List.set_cons_succ]
        refine wpAnyH_take (i := 5) (oi := _) (v := ?_) (by simp only [List.getElem?_toArray, List.getElem?_cons_zero, List.getElem?_cons_succ]; rfl) (by kernel_rfl) (by kernel_rfl) (by kernel_rfl) (fun _ _ _ h => h) (Or.inl ⟨by rfl, ?_⟩) (by assumption) ?_
        rotate_left
        · intro w' hSw; (try dsimp only at hSw); go_simp; try with_reducible rfl
        try simp only [Act.put, List.setIfInBounds_toArray, List.set_cons_zero, List.set_cons_succ]
        refine wpAnyH_take (i := 6) (oi := _) (v := ?_) (by simp only [List.getElem?_toArray, List.getElem?_cons_zero, List.getElem?_cons_succ]; rfl) (by kernel_rfl) (by kernel_rfl) (by kernel_rfl) (fun _ _ _ h => h) (Or.inl ⟨by rfl, ?_⟩) (by assumption) ?_
        rotate_left
        · intro w' hSw; (try dsimp only at hSw); go_simp; try with_reducible rfl
        try simp only [Act.put, List.setIfInBounds_toArray, List.set_cons_zero, List.set_cons_succ]
        refine wpAnyH_take (i := 7) (oi := _) (v := ?_) (by simp only [List.getElem?_toArray, List.getElem?_cons_zero, List.getElem?_cons_succ]; rfl) (by kernel_rfl) (by kernel_rfl) (by kernel_rfl) (fun _ _ _ h => h) (Or.inl ⟨by rfl, ?_⟩) (by assumption) ?_
        rotate_left
        · intro w' hSw; (try dsimp only at hSw); go_simp; try with_reducible rfl
        try simp only [Act.put, List.setIfInBounds_toArray, List.set_cons_zero, List.set_cons_succ]
        refine wpAnyH_take (i := 8) (oi := _) (v := ?_) (by simp only [List.getElem?_toArray, List.getElem?_cons_zero, List.getElem?_cons_succ]; rfl) (by kernel_rfl) (by kernel_rfl) (by kernel_rfl) (fun _ _ _ h => h) (Or.inl ⟨by rfl, ?_⟩) (by assumption) ?_
        rotate_left
        · intro w' hSw; (try dsimp only at hSw); have hf := (HY.out.at_ hSw).1; go_simp; try with_reducible rfl
        try simp only [Act.put, List.setIfInBounds_toArray, List.set_cons_zero, List.set_cons_succ]
        refine wpAnyH_take (i := 9) (oi := _) (v := ?_) (by simp only [List.getElem?_toArray, List.getElem?_cons_zero, List.getElem?_cons_succ]; rfl) (by kernel_rfl) (by kernel_rfl) (by kernel_rfl) (fun _ _ _ h => h) (Or.inl ⟨by rfl, ?_⟩) (by assumption) ?_
        rotate_left
        · intro w' hSw; (try dsimp only at hSw); have hf := str_u8 (c := c2) (HY.out.at_ hSw).2; go_simp; try with_reducible rfl
        try simp only [Act.put, List.setIfInBounds_toArray, List.set_cons_zero, List.set_cons_succ]
        by_cases hxy : x = y
        · have hs := l_same hxy
          have EXY := Lib.hid hxy
          clear hxy
          refine wpAnyH_take (i := 10) (oi := _) (v := ?_) (by simp only [List.getElem?_toArray, List.getElem?_cons_zero, List.getElem?_cons_succ]; rfl) (by kernel_rfl) (by kernel_rfl) (by kernel_rfl) (fun _ _ _ h => h) (Or.inl ⟨by rfl, ?_⟩) (by assumption) ?_
          rotate_left
          · intro w' hSw; (try dsimp only at hSw); go_simp; try with_reducible rfl
          try simp only [Act.put, List.setIfInBounds_toArray, List.set_cons_zero, List.set_cons_succ]
          refine wpAnyH_done (by kernel_rfl) ?_ _
          refine NoPanic.normal ?_
          go_wp2_with fail
          go_roundw
          case rel => exact ⟨k + 1, by go_num, by omega, take_eq_next HT.out (by rw [LX.out]; exact hlt) (by rw [LY.out]; exact hlt) (by rw [← EX.out, ← EY.out]; exact EXY.out), HB.out.drew⟩
          case measure => simp [intOf]; omega
        · have hs := l_other hxy
          have hne : decide (xs = ys) = false := by
            rw [decide_eq_false_iff_not]
            rintro rfl
            exact hxy (by rw [EX.out, EY.out])
          have HN := Lib.hid hne
          have EXY := Lib.hid hxy
          clear hne hxy
          refine wpAnyH_take (i := 10) (oi := _) (v := ?_) (by simp only [List.getElem?_toArray, List.getElem?_cons_zero, List.getElem?_cons_succ]; rfl) (by kernel_rfl) (by kernel_rfl) (by kernel_rfl) (fun _ _ _ h => h) (Or.inl ⟨by rfl, ?_⟩) (by assumption) ?_
          rotate_left
          · intro w' hSw; (try dsimp only at hSw); go_simp; try with_reducible rfl
          try simp only [Act.put, List.setIfInBounds_toArray, List.set_cons_zero, List.set_cons_succ]
          refine wpAnyH_done (by kernel_rfl) ?_ _
          refine NoPanic.normal ?_
          go_wp2_with fail
          go_ret
          exact ⟨by rw [HN.out]; rfl, HB.out.drew⟩
      · have he : decide (xs = ys) = true := by
          rw [decide_eq_true_iff]
          have := HT.out
          rw [List.take_of_length_le (by rw [LX.out]; omega), List.take_of_length_le (by rw [LY.out]; omega)] at this
          exact this
        have HE := Lib.hid he
        clear he
        go_wp2_with fail
        go_ret
        exact ⟨by rw [HE.out]; rfl, HB.out⟩
  · have hb : ((n : Int) != (m : Int)) = true := by rw [bne_iff_ne]; omega
    have hne : decide (xs = ys) = false := by
      rw [decide_eq_false_iff_not]
      rintro rfl
      exact hnm (LX.out.symm.trans LY.out)
    have HN := Lib.hid hne
    clear hne hnm
    go_enter Try.func29, Try.ntmps29
    go_wp2_with fail
    go_ret
    exact ⟨by rw [HN.out]; rfl, Below.refl _ _⟩
end Go.Proofs.Ytcdaioljddaopaa
