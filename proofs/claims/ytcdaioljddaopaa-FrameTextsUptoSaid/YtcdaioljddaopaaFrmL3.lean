/- law: FrameTexts (the second form) -/
import Derived.Test.YtcdaioljddaopaaFrmV
import Derived.Test.YtcdaioljddaopaaFrmI
import Derived.Test.YtcdaioljddaopaaLibU
namespace Go.Proofs.Ytcdaioljddaopaa
open Go.RowKit

theorem takeT_text (b l : List UInt8) (hb : b.length < 18446744073709551616) : takeT ((uintL b.length ++ b) ++ l) = (b, (uintL b.length ++ b).length) := by
  unfold takeT
  rw [List.append_assoc, takeU_uintL b.length hb (b ++ l)]
  have h1 := (uintL_form b.length)
  obtain ⟨pre, c, e, _⟩ := h1
  have h2 : 0 < (uintL b.length).length := by rw [e]; simp
  rw [if_neg (by simp only [List.length_append]; omega)]
  simp
theorem bytes_same (s : ByteArray) : (⟨s.data.toList.toArray⟩ : ByteArray) = s := by cases s; simp

set_option maxRecDepth 100000 in
set_option maxHeartbeats 4000000 in
theorem texts_walk (s : ByteArray) (A : Option Addr) (n c : Nat) (l : List UInt8) (w : World) (hm : s.size ≤ 1048576) (hx : Reads w w.heap.size 1 A n (u8s l)) (hn : n ≤ c) (hc : c ≤ 1048576) :
    Calls Try.prog 5 #[.string s, .slice A n c] w fun e w' => e = .returned (.bool true) ∧ Below w.heap.size w w' := by
  have HX := Lib.hid hx
  clear hx
  go_enter Try.func5, Try.ntmps5
  go_wp2_with fail
  refine (awake_any w).mono ?_
  rintro e w1 ⟨rfl, hb1⟩
  have HX1 := Lib.hid ((HX.out.below hb1).more hb1.size)
  have HB1 := Lib.hid hb1
  clear hb1
  go_wp2_with fail
  refine (text_any s w1 (by omega)).mono ?_
  rintro e w2 ⟨A2, c2, rfl, ho, hb⟩
  have hul0 := uintL_len64 (n := s.size) (by omega)
  have hsz0 : s.data.toList.length = s.size := by simp
  obtain ⟨u, huu⟩ : ∃ u, u = uintL s.size ++ s.data.toList := ⟨_, rfl⟩
  have hul : u.length = (uintL s.size).length + s.size := by rw [huu, List.length_append, hsz0]
  rw [← huu, ← hul] at ho
  rw [← hul]
  have hulb : u.length ≤ 1048600 := by omega
  have HUL := Lib.hid hul
  clear hul hsz0
  have HU := Lib.hid huu
  clear huu
  have HR2 := Lib.hid ho.reads
  have HX2 := Lib.hid ((HX1.out.below hb).more hb.size)
  have HB2 := Lib.hid (HB1.out.trans (hb.mono HB1.out.size))
  clear ho hb
  go_wp2_with fail
  refine (own_any A2 u.length c2 u w2 HR2.out (by omega)).mono ?_
  rintro e w3 ⟨A3, c3, rfl, ho, hb⟩
  have HO3 := Lib.hid ho
  have hb3 := hb.size
  have HX3 := Lib.hid ((HX2.out.below hb).more hb.size)
  have HW3 := Lib.hid hb
  clear ho hb
  go_wp2_with (at_builtin; refine halt_ ?_)
  refine unhalt ?_
  refine wpList_app elem_u8 HO3.out HX3.out (u8s_one l) (by omega) hb3 _ _ rfl rfl rfl rfl ?_
  intro A4 c4 w4 ho hup hat
  rw [← u8s_append] at ho
  have hb4 : Below w2.heap.size w2 w4 := HW3.out.trans (hup.to_below hb3 (fun i hi e => by have := HO3.out.ge _ e; omega))
  have hz4 := hb4.size
  have HB4 := Lib.hid (HB2.out.trans (hb4.mono HB2.out.size))
  have HR4 := Lib.hid ((HR2.out.below hb4).more hz4)
  have HX4 := Lib.hid ((HX2.out.below hb4).more hz4)
  have hc4 := ho.le
  have hc5 := ho.capLe
  have HO4 := Lib.hid ho.reads
  clear ho hb4 hup hat
  go_wp2_with fail
  refine (takeText_any A4 (u.length + n) c4 (u ++ l) w4 HO4.out hc4 hc5).mono ?_
  rintro e w5 ⟨rfl, rfl⟩
  rw [show takeT (u ++ l) = (s.data.toList, u.length) by rw [HU.out, show s.size = s.data.toList.length by simp]; exact takeT_text s.data.toList l (by simp; omega)]
  dsimp only
  rw [bytes_same]
  go_wp2_with fail
  refine wp_region_noPanic ?_
  refine wp_region_held_drew (S := fun w' => Below w4.heap.size w4 w') (by kernel_rfl) (below_drew w4) (fun hH => ?_)
  refine wpAnyH_take (i := 0) (oi := _) (v := ?_) (by simp only [List.getElem?_toArray, List.getElem?_cons_zero]; rfl) (by kernel_rfl) (by kernel_rfl) (by kernel_rfl) (fun _ _ _ h => h) (Or.inl ⟨by rfl, ?_⟩) (by assumption) ?_
  rotate_left
  · intro w' hSw; (try dsimp only at hSw); go_simp; try with_reducible rfl
  try simp only [Act.put, List.setIfInBounds_toArray, List.set_cons_zero, List.set_cons_succ]
  refine wpAnyH_take (i := 1) (oi := _) (v := ?_) (by simp only [List.getElem?_toArray, List.getElem?_cons_zero, List.getElem?_cons_succ]; rfl) (by kernel_rfl) (by kernel_rfl) (by kernel_rfl) (fun _ _ _ h => h) (Or.inl ⟨by rfl, ?_⟩) (by assumption) ?_
  rotate_left
  · intro w' hSw; (try dsimp only at hSw); have hf := str_u8 (c := c2) (HR4.out.below hSw); go_simp; try with_reducible rfl
  try simp only [Act.put, List.setIfInBounds_toArray, List.set_cons_zero, List.set_cons_succ]
  refine wpAnyH_take (i := 2) (oi := _) (v := ?_) (by simp only [List.getElem?_toArray, List.getElem?_cons_zero, List.getElem?_cons_succ]; rfl) (by kernel_rfl) (by kernel_rfl) (by kernel_rfl) (fun _ _ _ h => h) (Or.inl ⟨by rfl, ?_⟩) (by assumption) ?_
  rotate_left
  · intro w' hSw; (try dsimp only at hSw); go_simp; try with_reducible rfl
  try simp only [Act.put, List.setIfInBounds_toArray, List.set_cons_zero, List.set_cons_succ]
  refine wpAnyH_ready (rs := [3]) (by kernel_rfl) (by simp) (AllReadyH.cons (o := _) (by simp only [List.getElem?_toArray, List.getElem?_cons_zero, List.getElem?_cons_succ]; rfl) (fun K hK => ?_) AllReadyH.nil)
  go_simp
  go_at_call 21
  refine (refText_any s _ (by omega)).mono ?_
  rintro e w6 ⟨A6, c6, rfl, ho, hb⟩
  have HO6 := Lib.hid ho
  have HB6 := Lib.hid ((below_drew w4).trans hb)
  clear ho hb
  try go_wp2_with fail
  refine hK.out _ _ (HB6.out) (fun hHeld => ?_)
  clear hK K hH
  have hH := hHeld
  clear hHeld
  try simp only [Act.put, List.setIfInBounds_toArray, List.set_cons_zero, List.set_cons_succ]
  refine wpAnyH_more (S' := fun w' => Below w6.heap.size w6 w') (fun w' h => HB6.out.trans (h.mono HB6.out.size)) _ _ _ _ ?_
  clear hH
  have hH := Below.refl w6.heap.size w6
  refine wpAnyH_take (i := 4) (oi := _) (v := ?_) (by simp only [List.getElem?_toArray, List.getElem?_cons_zero, List.getElem?_cons_succ]; rfl) (by kernel_rfl) (by kernel_rfl) (by kernel_rfl) (fun _ _ _ h => h) (Or.inl ⟨by rfl, ?_⟩) (by assumption) ?_
  rotate_left
  · intro w' hSw; (try dsimp only at hSw); have hf := str_u8 (c := c6) (HO6.out.reads.below hSw); go_simp; try with_reducible rfl
  try simp only [Act.put, List.setIfInBounds_toArray, List.set_cons_zero, List.set_cons_succ]
  have hs := l_same HU.out
  refine wpAnyH_take (i := 5) (oi := _) (v := ?_) (by simp only [List.getElem?_toArray, List.getElem?_cons_zero, List.getElem?_cons_succ]; rfl) (by kernel_rfl) (by kernel_rfl) (by kernel_rfl) (fun _ _ _ h => h) (Or.inl ⟨by rfl, ?_⟩) (by assumption) ?_
  rotate_left
  · intro w' hSw; (try dsimp only at hSw); go_simp; try with_reducible rfl
  try simp only [Act.put, List.setIfInBounds_toArray, List.set_cons_zero, List.set_cons_succ]
  refine wpAnyH_take (i := 6) (oi := _) (v := ?_) (by simp only [List.getElem?_toArray, List.getElem?_cons_zero, List.getElem?_cons_succ]; rfl) (by kernel_rfl) (by kernel_rfl) (by kernel_rfl) (fun _ _ _ h => h) (Or.inl ⟨by rfl, ?_⟩) (by assumption) ?_
  rotate_left
  · intro w' hSw; (try dsimp only at hSw); go_simp; try with_reducible rfl
  try simp only [Act.put, List.setIfInBounds_toArray, List.set_cons_zero, List.set_cons_succ]
  refine wpAnyH_take (i := 7) (oi := _) (v := ?_) (by simp only [List.getElem?_toArray, List.getElem?_cons_zero, List.getElem?_cons_succ]; rfl) (by kernel_rfl) (by kernel_rfl) (by kernel_rfl) (fun _ _ _ h => h) (Or.inl ⟨by rfl, ?_⟩) (by assumption) ?_
  rotate_left
  · intro w' hSw; (try dsimp only at hSw); go_simp; try with_reducible rfl
  try simp only [Act.put, List.setIfInBounds_toArray, List.set_cons_zero, List.set_cons_succ]
  refine wpAnyH_take (i := 8) (oi := _) (v := ?_) (by simp only [List.getElem?_toArray, List.getElem?_cons_zero, List.getElem?_cons_succ]; rfl) (by kernel_rfl) (by kernel_rfl) (by kernel_rfl) (fun _ _ _ h => h) (Or.inl ⟨by rfl, ?_⟩) (by assumption) ?_
  rotate_left
  · intro w' hSw; (try dsimp only at hSw); go_simp; try with_reducible rfl
  try simp only [Act.put, List.setIfInBounds_toArray, List.set_cons_zero, List.set_cons_succ]
  refine wpAnyH_take (i := 9) (oi := _) (v := ?_) (by simp only [List.getElem?_toArray, List.getElem?_cons_zero, List.getElem?_cons_succ]; rfl) (by kernel_rfl) (by kernel_rfl) (by kernel_rfl) (fun _ _ _ h => h) (Or.inl ⟨by rfl, ?_⟩) (by assumption) ?_
  rotate_left
  · intro w' hSw; (try dsimp only at hSw); go_simp; try with_reducible rfl
  try simp only [Act.put, List.setIfInBounds_toArray, List.set_cons_zero, List.set_cons_succ]
  refine wpAnyH_take (i := 10) (oi := _) (v := ?_) (by simp only [List.getElem?_toArray, List.getElem?_cons_zero, List.getElem?_cons_succ]; rfl) (by kernel_rfl) (by kernel_rfl) (by kernel_rfl) (fun _ _ _ h => h) (Or.inl ⟨by rfl, ?_⟩) (by assumption) ?_
  rotate_left
  · intro w' hSw; (try dsimp only at hSw); go_simp; try with_reducible rfl
  try simp only [Act.put, List.setIfInBounds_toArray, List.set_cons_zero, List.set_cons_succ]
  refine wpAnyH_take (i := 11) (oi := _) (v := ?_) (by simp only [List.getElem?_toArray, List.getElem?_cons_zero, List.getElem?_cons_succ]; rfl) (by kernel_rfl) (by kernel_rfl) (by kernel_rfl) (fun _ _ _ h => h) (Or.inl ⟨by rfl, ?_⟩) (by assumption) ?_
  rotate_left
  · intro w' hSw; (try dsimp only at hSw); go_simp; try with_reducible rfl
  try simp only [Act.put, List.setIfInBounds_toArray, List.set_cons_zero, List.set_cons_succ]
  refine wpAnyH_take (i := 12) (oi := _) (v := ?_) (by simp only [List.getElem?_toArray, List.getElem?_cons_zero, List.getElem?_cons_succ]; rfl) (by kernel_rfl) (by kernel_rfl) (by kernel_rfl) (fun _ _ _ h => h) (Or.inl ⟨by rfl, ?_⟩) (by assumption) ?_
  rotate_left
  · intro w' hSw; (try dsimp only at hSw); go_simp; try with_reducible rfl
  try simp only [Act.put, List.setIfInBounds_toArray, List.set_cons_zero, List.set_cons_succ]
  refine wpAnyH_take (i := 13) (oi := _) (v := ?_) (by simp only [List.getElem?_toArray, List.getElem?_cons_zero, List.getElem?_cons_succ]; rfl) (by kernel_rfl) (by kernel_rfl) (by kernel_rfl) (fun _ _ _ h => h) (Or.inl ⟨by rfl, ?_⟩) (by assumption) ?_
  rotate_left
  · intro w' hSw; (try dsimp only at hSw); go_simp; try with_reducible rfl
  try simp only [Act.put, List.setIfInBounds_toArray, List.set_cons_zero, List.set_cons_succ]
  refine wpAnyH_take (i := 14) (oi := _) (v := ?_) (by simp only [List.getElem?_toArray, List.getElem?_cons_zero, List.getElem?_cons_succ]; rfl) (by kernel_rfl) (by kernel_rfl) (by kernel_rfl) (fun _ _ _ h => h) (Or.inl ⟨by rfl, ?_⟩) (by assumption) ?_
  rotate_left
  · intro w' hSw; (try dsimp only at hSw); go_simp; try with_reducible rfl
  try simp only [Act.put, List.setIfInBounds_toArray, List.set_cons_zero, List.set_cons_succ]
  refine wpAnyH_take (i := 15) (oi := _) (v := ?_) (by simp only [List.getElem?_toArray, List.getElem?_cons_zero, List.getElem?_cons_succ]; rfl) (by kernel_rfl) (by kernel_rfl) (by kernel_rfl) (fun _ _ _ h => h) (Or.inl ⟨by rfl, ?_⟩) (by assumption) ?_
  rotate_left
  · intro w' hSw; (try dsimp only at hSw); go_simp; try with_reducible rfl
  try simp only [Act.put, List.setIfInBounds_toArray, List.set_cons_zero, List.set_cons_succ]
  refine wpAnyH_take (i := 16) (oi := _) (v := ?_) (by simp only [List.getElem?_toArray, List.getElem?_cons_zero, List.getElem?_cons_succ]; rfl) (by kernel_rfl) (by kernel_rfl) (by kernel_rfl) (fun _ _ _ h => h) (Or.inl ⟨by rfl, ?_⟩) (by assumption) ?_
  rotate_left
  · intro w' hSw; (try dsimp only at hSw); go_simp; try with_reducible rfl
  try simp only [Act.put, List.setIfInBounds_toArray, List.set_cons_zero, List.set_cons_succ]
  refine wpAnyH_done (by kernel_rfl) ?_ _
  refine NoPanic.normal ?_
  go_wp2_with fail
  have HX6 := Lib.hid ((HX4.out.below HB6.out).more HB6.out.size)
  have HBB6 := Lib.hid (HB4.out.trans (HB6.out.mono (Nat.le_trans HB2.out.size hz4)))
  refine (own_any A n c l w6 HX6.out (by omega)).mono ?_
  rintro e w7 ⟨A7, c7, rfl, ho, hb⟩
  have hc7 := ho.le
  have hc8 := ho.capLe
  have HR7 := Lib.hid ho.reads
  have HX7 := Lib.hid ((HX6.out.below hb).more hb.size)
  have HB7 := Lib.hid (HBB6.out.trans (hb.mono HBB6.out.size))
  clear ho hb
  go_wp2_with fail
  refine (takeText_any A7 n c7 l w7 HR7.out hc7 hc8).mono ?_
  rintro e w8 ⟨rfl, rfl⟩
  go_wp2_with fail
  refine (refTakeText_any A n c l w7 HX7.out hn (by unfold maxLen; omega)).mono ?_
  rintro e w9 ⟨rfl, hb⟩
  have HB9 := Lib.hid (HB7.out.trans (hb.mono HB7.out.size))
  clear hb
  go_wp2_with fail
  go_ret
  exact ⟨by simp, HB9.out⟩

theorem texts_vals (W : World) (args : Array Value) (hv : Vals Try.prog W [9, 23] args.toList) (hs : Smalls Try.prog [9, 23] args.toList) :
    Calls Try.prog 5 args W fun e W' => e = .returned (.bool true) ∧ Below W.heap.size W W' := by
  obtain ⟨v0, r0, e0, h0, v1, r1, rfl, h1, rfl⟩ := hv
  obtain rfl : args = #[v0, v1] := by cases args; simp_all
  obtain ⟨s, rfl, _⟩ := val_string Try.underlying9 h0
  obtain ⟨A, n, c, l, rfl, hr, hn, hc⟩ := val_bytes h1
  obtain ⟨s1, s2, _⟩ := hs
  exact texts_walk s A n c l W (s1.2 Try.underlying9 s rfl) hr hn (s2.1 _ Try.underlying23 A n c rfl)

set_option maxRecDepth 100000 in
theorem texts_lifted (os : Os) (started : os.Started) (H : Type) (enc : TypeId × Value → H) (F : Stop.Interp) :
    ReturnsInHanded {} Try.checked os 5 .any ((Rows.OpenSpec.upto Rows.frameTextsSpec).pre6 enc Try.prog Try.f5 Rows.frameTextsUptoRow.domain false) (((Rows.OpenSpec.upto Rows.frameTextsSpec).at F).post enc Try.prog Try.f5 false true false false) :=
  lift_upto (C := Try.checked) #[9, 23] (by kernel_rfl) (by kernel_rfl) started (by kernel_rfl) Try.func5
    (OpenSpec.witness (enc := enc) (C := Try.checked) (s := Rows.OpenSpec.upto Rows.frameTextsSpec) (k := Rows.uptoSmall) rfl false ⟨#[], #[.string .empty, .slice none 0 0], []⟩ 8 (by kernel_rfl) (by kernel_rfl) (by kernel_rfl)
      (x := ([.lit (.string []), .nil], [], [])) (by kernel_rfl) rfl (by kernel_rfl))
    Try.params5 (by kernel_rfl) rfl rfl Try.underlying4 (fun ds hl => match ds, hl with | [_, _], _ => rfl) (fun W args hv hs => texts_vals W args hv hs)

theorem texts_holds : Rows.FrameTextsUptoSaid :=
  OpenClaim.holds_of_cond 5 Try.f5 rfl rfl rfl rfl rfl rfl rfl ⟨rfl, rfl, rfl, rfl, rfl⟩ rfl rfl rfl rfl rfl (by kernel_rfl) Try.func5 (by kernel_rfl)
    (of_decide_eq_true (by kernel_rfl)) (by unfold Func.isWrapper; rw [if_neg (of_decide_eq_false (by kernel_rfl))]; exact ⟨rfl, rfl⟩)
    (fun os started H enc _ F => texts_lifted os started H enc F)
end Go.Proofs.Ytcdaioljddaopaa
