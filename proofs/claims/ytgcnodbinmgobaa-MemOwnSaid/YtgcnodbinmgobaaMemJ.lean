/- walks: the reference's Before, Error, Put, Get -/
import Derived.Test.YtgcnodbinmgobaaMemF
import Derived.Test.YtgcnodbinmgobaaMemQ
import Derived.Test.YtgcnodbinmgobaaLibO
import Derived.Deep.QuietTactic
import Derived.StillTailTactics
namespace Go.Proofs.Ytgcnodbinmgobaa
open Go.RowKit

set_option maxRecDepth 100000 in
set_option maxHeartbeats 1000000 in
theorem bef_any (a b : Ent) (w : World) :
    Calls Try.prog 25 #[.agg #[.string a.key, .int .i64 a.seq, .bool a.del, .string a.val], .agg #[.string b.key, .int .i64 b.seq, .bool b.del, .string b.val]] w fun e w' => e = .returned (.bool (bfor a b.key b.seq)) ∧ Below w.heap.size w w' := by
  obtain ⟨r, hr⟩ : ∃ r, r = bfor a b.key b.seq := ⟨_, rfl⟩
  rw [← hr]
  have HR := Lib.hid hr
  clear hr
  have hb := ((Below.refl w.heap.size w).alloc (Nat.le_refl _) (.cells #[.string a.key, .int .i64 a.seq, .bool a.del, .string a.val] 28)).alloc (by simp) (.cells #[.string b.key, .int .i64 b.seq, .bool b.del, .string b.val] 28)
  have HB := Lib.hid hb
  clear hb
  go_enter Try.func25, Try.ntmps25
  cases h1 : Op.bytesLess a.key.toList b.key.toList with
  | true =>
    go_wp2_with fail
    go_ret
    exact ⟨by rw [HR.out]; simp [bfor, h1], HB.out⟩
  | false =>
    by_cases h2 : a.key.toList = b.key.toList
    · have h3 : (a.key.toList == b.key.toList) = true := by simpa using h2
      have H2 := Lib.hid h2
      clear h2
      by_cases h4 : b.seq < a.seq
      · go_wp2_with fail
        go_ret
        exact ⟨by rw [HR.out]; simp [bfor, H2.out, h4], HB.out⟩
      · go_wp2_with fail
        go_ret
        exact ⟨by rw [HR.out]; simp [bfor, H2.out, less_irrefl]; omega, HB.out⟩
    · have h3 : (a.key.toList == b.key.toList) = false := by simpa using h2
      go_wp2_with fail
      go_ret
      exact ⟨by rw [HR.out]; simp [bfor, h1, h2], HB.out⟩

theorem size_toList (s : ByteArray) : s.toList.length = s.size := by rw [ByteArray.toList_eq]; simp
theorem empty_iff (s : ByteArray) : s.toList ≠ [] ↔ 0 < s.size := by
  rw [← size_toList]
  cases s.toList <;> simp
set_option maxRecDepth 100000 in
set_option maxHeartbeats 1000000 in
theorem err_any (x : Ent) (w : World) :
    Calls Try.prog 24 #[.agg #[.string x.key, .int .i64 x.seq, .bool x.del, .string x.val]] w fun e w' => e = .returned (.int .i64 (errL x)) ∧ Below w.heap.size w w' := by
  obtain ⟨r, hr⟩ : ∃ r, r = errL x := ⟨_, rfl⟩
  rw [← hr]
  have HR := Lib.hid hr
  clear hr
  have HB := Lib.hid ((Below.refl w.heap.size w).alloc (Nat.le_refl _) (.cells #[.string x.key, .int .i64 x.seq, .bool x.del, .string x.val] 28))
  go_enter Try.func24, Try.ntmps24
  by_cases h1 : (64 : Int) < (x.key.size : Int)
  · go_wp2_with fail
    go_ret
    exact ⟨by rw [HR.out]; unfold errL; rw [if_pos (by omega)]; rfl, HB.out⟩
  by_cases h2 : (1024 : Int) < (x.val.size : Int)
  · go_wp2_with fail
    go_ret
    exact ⟨by rw [HR.out]; unfold errL; rw [if_pos (by omega)]; rfl, HB.out⟩
  by_cases h3 : x.seq < 1
  · go_wp2_with fail
    go_ret
    exact ⟨by rw [HR.out]; unfold errL; rw [if_neg (by omega), if_pos (.inl h3)]; rfl, HB.out⟩
  by_cases h4 : (4611686018427387904 : Int) < x.seq
  · go_wp2_with fail
    go_ret
    exact ⟨by rw [HR.out]; unfold errL; rw [if_neg (by omega), if_pos (.inr (.inl h4))]; rfl, HB.out⟩
  cases h5 : x.del with
  | false =>
    rw [h5] at HB
    have H5 := Lib.hid h5
    clear h5
    go_wp2_with fail
    go_ret
    exact ⟨by rw [HR.out]; unfold errL; rw [if_neg (by omega), if_neg (by simp [H5.out]; omega)]; rfl, HB.out⟩
  | true =>
    rw [h5] at HB
    have H5 := Lib.hid h5
    clear h5
    by_cases h6 : (0 : Int) < (x.val.size : Int)
    · go_wp2_with fail
      go_ret
      exact ⟨by rw [HR.out]; unfold errL; rw [if_neg (by omega), if_pos (.inr (.inr ⟨H5.out, (empty_iff _).2 (by omega)⟩))]; rfl, HB.out⟩
    · have hne : ¬ x.val.toList ≠ [] := fun h => by have := (empty_iff _).1 h; omega
      have HNE := Lib.hid hne
      clear hne
      go_wp2_with fail
      go_ret
      exact ⟨by rw [HR.out]; unfold errL; rw [if_neg (by omega), if_neg (by rintro (h | h | ⟨_, h⟩) <;> first | omega | exact HNE.out h)]; rfl, HB.out⟩

theorem size_ent : (Try.prog.info? 28).map (·.size) = some 4 := by kernel_rfl
theorem Own.ents_length {w : World} {base n c : Nat} {A : Option Addr} {l : List Ent} (h : Own w base 28 4 A n c (ents l)) : l.length = n := h.reads.ents_length
theorem ents_ins (l : List Ent) (x : Ent) {k : Nat} (hk : posOf l x.key x.seq = k) : ents (l.take k) ++ [Value.string x.key, .int .i64 x.seq, .bool x.del, .string x.val] ++ (ents l).drop (k * 4) = ents (insL l x) := by
  have h := flat_drop (f := Ent.cells) (m := 4) (fun _ => rfl) l k
  have e : ents l = flat Ent.cells l := rfl
  rw [e, h]
  unfold insL
  rw [hk, ents_append, ← ents_sing x, List.append_assoc, show x :: l.drop k = [x] ++ l.drop k from rfl, ents_append]
  rfl
set_option maxRecDepth 100000 in
set_option maxHeartbeats 4000000 in
theorem refput_any (B : Nat) (A : Option Addr) (n c : Nat) (l : List Ent) (x : Ent) (w : World) (h : Own w B 28 4 A n c (ents l)) (hn : n ≤ 1000) (hB : B ≤ w.heap.size) :
    Calls Try.prog 19 #[.slice A n c, .agg #[.string x.key, .int .i64 x.seq, .bool x.del, .string x.val]] w fun e w' =>
      ∃ A' m c', e = .returned (.tuple #[.slice A' m c', .int .i64 (putL l x).2]) ∧ Own w' B 28 4 A' m c' (ents (putL l x).1) ∧ m ≤ n + 1 ∧ Below w.heap.size w w' := by
  have hln := h.ents_length
  have hle := h.le
  have HLN := Lib.hid hln
  clear hln
  go_enter Try.func19, Try.ntmps19
  go_wp2_with fail
  obtain ⟨w1, hw1⟩ : ∃ v, v = w.alloc (.cells #[.string x.key, .int .i64 x.seq, .bool x.del, .string x.val] 28) := ⟨_, rfl⟩
  obtain ⟨g, hg⟩ : ∃ g, g = w.heap.size := ⟨_, rfl⟩
  rw [← hw1]
  have hb1 : Below w.heap.size w w1 := by rw [hw1]; exact (Below.refl _ _).alloc (Nat.le_refl _) _
  have hk1 : Blk w1 w.heap.size 28 #[.string x.key, .int .i64 x.seq, .bool x.del, .string x.val] := by rw [hw1]; exact Blk.new _ _ _
  rw [← hg] at hk1 ⊢
  have HG := Lib.hid hg
  have hgl := hk1.lt
  have HK := Lib.hid ((hk1.keeps.and (h.below hb1 (Nat.le_refl _)).keeps).and (below_keeps hb1 hb1.size))
  have HK0 := Lib.hid h
  clear hw1 hk1 hb1 h hg
  refine (err_any x w1).mono ?_
  rintro e w2 ⟨rfl, hb⟩
  have HK2 := Lib.hid (HK.out.on hb)
  clear hb HK hgl
  obtain ⟨er, her⟩ : ∃ er, er = errL x := ⟨_, rfl⟩
  rw [← her]
  by_cases he0 : er = 0
  · subst he0
    have HE0 := Lib.hid her
    clear her
    go_wp2_with fail
    go_loopw [7, 8] (fun v iv wr => ∃ (k : Nat) (A' : Option Addr) (c' : Nat), v = .slice A' k c' ∧ iv = .int .i64 k ∧ k ≤ n ∧ Own wr w2.heap.size 28 4 A' k c' (ents (l.take k)) ∧ (∀ j a, j < k → l[j]? = some a → bfor a x.key x.seq = true) ∧ Below w2.heap.size w2 wr) (fun _ iv _ => n - (intOf iv).toNat)
    case atStart => exact ⟨0, none, 0, rfl, rfl, by omega, by simpa [ents] using Own.nil_ _ _ 28 4, fun j a h => by omega, Below.refl _ _⟩
    case round =>
      obtain ⟨k, A', c', rfl, rfl, hk, ho, hj, hb⟩ := hrel
      have HO := Lib.hid ho
      have HJ := Lib.hid hj
      have HKR := Lib.hid (HK2.out.on hb)
      have HBR := Lib.hid hb
      obtain ⟨PA, hcut, hread⟩ := cut_low (P := Try.prog) (lo := k) Try.underlying26 size_ent A hk hle
      have HREAD := Lib.hid hread
      have HCUT := Lib.hid hcut
      clear ho hj hb hread hcut
      by_cases hkn : (k : Int) < (n : Int)
      · obtain ⟨ad, y, rfl, hab, hy, hc⟩ := HKR.out.now.1.2.reads.ent (k := k) (by omega)
        have hk0 : (0 : Int) ≤ (k : Int) := by omega
        have hkc := HKR.out.now.1.1.c4
        have HY := Lib.hid hy
        clear hy hab
        go_wp2_with fail
        go_still_tail 10, (by kernel_rfl)
        change wpList _ _ _ _ _ wr.drew
        go_wp2_with fail
        refine (bef_any y x wr.drew).mono ?_
        rintro e w4 ⟨rfl, hb⟩
        have HK4 := Lib.hid (HKR.out.drew.on hb)
        have HB4 := Lib.hid (HBR.out.drew.trans (hb.mono HBR.out.size))
        have HO4 := Lib.hid (HO.out.drew.below hb (Nat.le_refl _))
        have hsz2 : w2.heap.size ≤ w4.heap.size := HB4.out.size
        clear hb hc hkc HO HKR HBR
        cases hbf : bfor y x.key x.seq with
        | true =>
          have HBF := Lib.hid hbf
          clear hbf
          obtain ⟨ad', y', e, _, hy', hc⟩ := HK4.out.now.1.2.reads.ent (k := k) (by omega)
          injection e with e
          subst e
          rw [HY.out] at hy'
          injection hy' with hy'
          subst hy'
          go_wp2_with (at_builtin; refine halt_ ?_)
          refine unhalt ?_
          refine wpList_app elem_ent (HO4.out.alloc _) (reads_new (size := 4) (cs := #[.string y.key, .int .i64 y.seq, .bool y.del, .string y.val]) w4 28 1 rfl) (by simp [Value.oneCell']) (by omega) (by simp; omega) _ _ rfl rfl rfl rfl ?_
          intro A5 c5 w5 ho5 hu5 hat5
          have hb5 : Below w2.heap.size w2 w5 := below_app (HB4.out.alloc hsz2 (.cells #[.string y.key, .int .i64 y.seq, .bool y.del, .string y.val] 28)) (by simp; omega) (HO4.out.alloc _) (Nat.le_refl _) hu5
          have HO5 := Lib.hid ho5
          have HB5 := Lib.hid hb5
          clear ho5 hu5 hat5 hb5 hc
          go_wp2_with fail
          go_roundw
          case rel => exact ⟨k + 1, A5, c5, by first | rfl | go_num, by go_num, by omega, by rw [List.take_add_one, HY.out, ents_append, Option.toList_some, ents_sing]; exact HO5.out, (fun j a h1 h2 => by
            rcases Nat.lt_or_ge j k with h | h
            · exact HJ.out j a h h2
            · obtain rfl : j = k := by omega
              rw [HY.out] at h2
              injection h2 with h2
              rw [← h2]
              exact HBF.out), HB5.out⟩
          case measure => simp [intOf]; omega
        | false =>
          have hpos : posOf l x.key x.seq = k := posOf_eq (by have := HLN.out; omega) HJ.out (fun a h2 => by
            rw [HY.out] at h2
            injection h2 with h2
            rw [← h2]
            exact hbf)
          have HPOS := Lib.hid hpos
          have HBF := Lib.hid hbf
          clear hbf hpos
          obtain ⟨ad', y', e, _, hy', hc⟩ := HK4.out.now.1.2.reads.ent (k := k) (by omega)
          injection e with e
          subst e
          rw [HY.out] at hy'
          injection hy' with hy'
          subst hy'
          have hkc := HK4.out.now.1.1.c4
          have hsamev : sameAt l[posOf l x.key x.seq]? x = decide (y.key.toList = x.key.toList ∧ y.seq = x.seq) := by rw [HPOS.out, HY.out]; rfl
          by_cases hke : y.key.toList = x.key.toList
          · have hkb : (y.key.toList == x.key.toList) = true := by simpa using hke
            by_cases hse : y.seq = x.seq
            · have hput : putL l x = (l, 2) := by
                unfold putL
                rw [← HE0.out, if_neg (by simp), hsamev, if_pos (by simp [hke, hse])]
              have hsb : (y.seq == x.seq) = true := by simpa using hse
              have HP := Lib.hid hput
              clear hke hse hput hsamev
              go_wp2_with fail
              go_quiet (fail)
              go_wp2_with fail
              go_ret2
              exact ⟨_, n, c, by rw [HP.out]; rfl, by rw [HP.out]; exact (HK4.out.drewN _).now.1.2, by omega, (HK4.out.drewN _).now.2⟩
            · have hsm : sameAt l[posOf l x.key x.seq]? x = false := by rw [hsamev]; exact decide_eq_false (fun h => hse h.2)
              have hsb : (y.seq == x.seq) = false := by simpa using hse
              have HSAME := Lib.hid hsm
              clear hke hse hsm hsamev
              go_wp2_with fail
              go_quiet (fail)
              obtain ⟨W, hW⟩ : ∃ W, W = w4.drewN nq := ⟨_, rfl⟩
              have HKW := Lib.hid (HK4.out.drewN nq)
              have HOW := Lib.hid (HO4.out.drewN nq)
              rw [← hW] at HKW HOW ⊢
              have hszW : w2.heap.size ≤ W.heap.size := by rw [hW]; exact hsz2
              clear hW hc hkc HK4 HO4
              have hput : putL l x = (insL l x, 0) := by
                unfold putL
                rw [← HE0.out, if_neg (by simp), if_neg (by rw [HSAME.out]; decide)]
              have HP := Lib.hid hput
              have hcut := HCUT.out
              clear hput
              have hkc := HKW.out.now.1.1.c4
              go_wp2_with (at_builtin; refine halt_ ?_)
              refine unhalt ?_
              refine wpList_app elem_ent (HOW.out.alloc _) (reads_new (size := 4) (cs := #[.string x.key, .int .i64 x.seq, .bool x.del, .string x.val]) W 28 1 rfl) (by simp [Value.oneCell']) (by omega) (by simp; omega) _ _ rfl rfl rfl rfl ?_
              intro A5 c5 w5 ho5 hu5 hat5
              have hszw : w.heap.size ≤ W.heap.size := HKW.out.now.2.size
              have hsz0 : w.heap.size ≤ w2.heap.size := HK2.out.now.2.size
              have hb5 : Below w.heap.size w w5 := below_app (HKW.out.now.2.alloc hszw (.cells #[.string x.key, .int .i64 x.seq, .bool x.del, .string x.val] 28)) (by simp; omega) (HOW.out.alloc _) hsz0 hu5
              have hl5 := (HK0.out.below hb5 (Nat.le_refl _))
              have HO5 := Lib.hid ho5
              have HL5 := Lib.hid hl5
              have HB5 := Lib.hid hb5
              have hsz5 : w.heap.size ≤ w5.heap.size := hb5.size
              have hsz6 : w2.heap.size ≤ w5.heap.size := by have := hu5.size; simp at this; omega
              clear hkc ho5 hu5 hat5 hb5 hl5
              go_wp2_with (at_builtin; refine halt_ ?_)
              refine unhalt ?_
              have hrd := HREAD.out w5 _ _ HL5.out.reads
              refine wpList_app elem_ent HO5.out hrd (fun u hu => ents_one l u (List.mem_of_mem_drop hu)) (by omega) hsz6 _ _ rfl rfl rfl rfl ?_
              intro A6 c6 w6 ho6 hu6 hat6
              have hb6 : Below w.heap.size w w6 := below_app HB5.out hsz5 HO5.out hsz0 hu6
              have HO6 := Lib.hid ho6
              have HB6 := Lib.hid hb6
              clear hrd ho6 hu6 hat6 hb6 hcut
              go_wp2_with fail
              go_ret2
              refine ⟨A6, k + 1 + (n - k), c6, by rw [HP.out]; rfl, ?_, by omega, HB6.out⟩
              rw [HP.out, ← ents_ins l x HPOS.out]
              exact HO6.out.mono (Nat.le_trans hB hsz0)
          · have hsm : sameAt l[posOf l x.key x.seq]? x = false := by rw [hsamev]; exact decide_eq_false (fun h => hke h.1)
            have hkb : (y.key.toList == x.key.toList) = false := by simpa using hke
            have HSAME := Lib.hid hsm
            clear hke hsm hsamev
            go_wp2_with fail
            go_quiet (fail)
            obtain ⟨W, hW⟩ : ∃ W, W = w4.drewN nq := ⟨_, rfl⟩
            have HKW := Lib.hid (HK4.out.drewN nq)
            have HOW := Lib.hid (HO4.out.drewN nq)
            rw [← hW] at HKW HOW ⊢
            have hszW : w2.heap.size ≤ W.heap.size := by rw [hW]; exact hsz2
            clear hW hc hkc HK4 HO4
            have hput : putL l x = (insL l x, 0) := by
              unfold putL
              rw [← HE0.out, if_neg (by simp), if_neg (by rw [HSAME.out]; decide)]
            have HP := Lib.hid hput
            have hcut := HCUT.out
            clear hput
            have hkc := HKW.out.now.1.1.c4
            go_wp2_with (at_builtin; refine halt_ ?_)
            refine unhalt ?_
            refine wpList_app elem_ent (HOW.out.alloc _) (reads_new (size := 4) (cs := #[.string x.key, .int .i64 x.seq, .bool x.del, .string x.val]) W 28 1 rfl) (by simp [Value.oneCell']) (by omega) (by simp; omega) _ _ rfl rfl rfl rfl ?_
            intro A5 c5 w5 ho5 hu5 hat5
            have hszw : w.heap.size ≤ W.heap.size := HKW.out.now.2.size
            have hsz0 : w.heap.size ≤ w2.heap.size := HK2.out.now.2.size
            have hb5 : Below w.heap.size w w5 := below_app (HKW.out.now.2.alloc hszw (.cells #[.string x.key, .int .i64 x.seq, .bool x.del, .string x.val] 28)) (by simp; omega) (HOW.out.alloc _) hsz0 hu5
            have hl5 := (HK0.out.below hb5 (Nat.le_refl _))
            have HO5 := Lib.hid ho5
            have HL5 := Lib.hid hl5
            have HB5 := Lib.hid hb5
            have hsz5 : w.heap.size ≤ w5.heap.size := hb5.size
            have hsz6 : w2.heap.size ≤ w5.heap.size := by have := hu5.size; simp at this; omega
            clear hkc ho5 hu5 hat5 hb5 hl5
            go_wp2_with (at_builtin; refine halt_ ?_)
            refine unhalt ?_
            have hrd := HREAD.out w5 _ _ HL5.out.reads
            refine wpList_app elem_ent HO5.out hrd (fun u hu => ents_one l u (List.mem_of_mem_drop hu)) (by omega) hsz6 _ _ rfl rfl rfl rfl ?_
            intro A6 c6 w6 ho6 hu6 hat6
            have hb6 : Below w.heap.size w w6 := below_app HB5.out hsz5 HO5.out hsz0 hu6
            have HO6 := Lib.hid ho6
            have HB6 := Lib.hid hb6
            clear hrd ho6 hu6 hat6 hb6 hcut
            go_wp2_with fail
            go_ret2
            refine ⟨A6, k + 1 + (n - k), c6, by rw [HP.out]; rfl, ?_, by omega, HB6.out⟩
            rw [HP.out, ← ents_ins l x HPOS.out]
            exact HO6.out.mono (Nat.le_trans hB hsz0)
      · have hpos : posOf l x.key x.seq = k := posOf_eq (by have := HLN.out; omega) HJ.out (fun a h2 => by
          have := (List.getElem?_eq_some_iff.1 h2).1
          have := HLN.out
          omega)
        have hsm : sameAt l[posOf l x.key x.seq]? x = false := by rw [hpos, List.getElem?_eq_none (by have := HLN.out; omega)]; rfl
        have HPOS := Lib.hid hpos
        have HSAME := Lib.hid hsm
        have hkd : decide (k < n) = false := decide_eq_false (by omega)
        clear hpos hsm
        go_wp2_with fail
        go_quiet (fail)
        obtain ⟨W1, hW1⟩ : ∃ W, W = wr.drewN nq := ⟨_, rfl⟩
        have HKW1 := Lib.hid (HKR.out.drewN nq)
        have HOW1 := Lib.hid (HO.out.drewN nq)
        have hsz1 : w2.heap.size ≤ (wr.drewN nq).heap.size := HBR.out.size
        rw [← hW1] at HKW1 HOW1 hsz1 ⊢
        clear hW1 HKR HO HBR
        go_wp2_with fail
        go_quiet (fail)
        obtain ⟨W, hW⟩ : ∃ W, W = W1.drewN nq := ⟨_, rfl⟩
        have HKW := Lib.hid (HKW1.out.drewN nq)
        have HOW := Lib.hid (HOW1.out.drewN nq)
        have hszW : w2.heap.size ≤ (W1.drewN nq).heap.size := hsz1
        rw [← hW] at HKW HOW hszW ⊢
        clear hW HKW1 HOW1 hsz1 hkd
        have hput : putL l x = (insL l x, 0) := by
          unfold putL
          rw [← HE0.out, if_neg (by simp), if_neg (by rw [HSAME.out]; decide)]
        have HP := Lib.hid hput
        have hcut := HCUT.out
        clear hput
        have hkc := HKW.out.now.1.1.c4
        go_wp2_with (at_builtin; refine halt_ ?_)
        refine unhalt ?_
        refine wpList_app elem_ent (HOW.out.alloc _) (reads_new (size := 4) (cs := #[.string x.key, .int .i64 x.seq, .bool x.del, .string x.val]) W 28 1 rfl) (by simp [Value.oneCell']) (by omega) (by simp; omega) _ _ rfl rfl rfl rfl ?_
        intro A5 c5 w5 ho5 hu5 hat5
        have hszw : w.heap.size ≤ W.heap.size := HKW.out.now.2.size
        have hsz0 : w.heap.size ≤ w2.heap.size := HK2.out.now.2.size
        have hb5 : Below w.heap.size w w5 := below_app (HKW.out.now.2.alloc hszw (.cells #[.string x.key, .int .i64 x.seq, .bool x.del, .string x.val] 28)) (by simp; omega) (HOW.out.alloc _) hsz0 hu5
        have hl5 := (HK0.out.below hb5 (Nat.le_refl _))
        have HO5 := Lib.hid ho5
        have HL5 := Lib.hid hl5
        have HB5 := Lib.hid hb5
        have hsz5 : w.heap.size ≤ w5.heap.size := hb5.size
        have hsz6 : w2.heap.size ≤ w5.heap.size := by have := hu5.size; simp at this; omega
        clear hkc ho5 hu5 hat5 hb5 hl5
        go_wp2_with (at_builtin; refine halt_ ?_)
        refine unhalt ?_
        have hrd := HREAD.out w5 _ _ HL5.out.reads
        refine wpList_app elem_ent HO5.out hrd (fun u hu => ents_one l u (List.mem_of_mem_drop hu)) (by omega) hsz6 _ _ rfl rfl rfl rfl ?_
        intro A6 c6 w6 ho6 hu6 hat6
        have hb6 : Below w.heap.size w w6 := below_app HB5.out hsz5 HO5.out hsz0 hu6
        have HO6 := Lib.hid ho6
        have HB6 := Lib.hid hb6
        clear hrd ho6 hu6 hat6 hb6 hcut
        go_wp2_with fail
        go_ret2
        refine ⟨A6, k + 1 + (n - k), c6, by rw [HP.out]; rfl, ?_, by omega, HB6.out⟩
        rw [HP.out, ← ents_ins l x HPOS.out]
        exact HO6.out.mono (Nat.le_trans hB hsz0)
  · have hput : putL l x = (l, er) := by
      unfold putL
      rw [← her, if_pos he0]
    have HP := Lib.hid hput
    have hz1 : ((er : Int) == 0) = false := by rw [beq_eq_false_iff_ne]; omega
    have hz2 : ((er : Int) != 0) = true := by rw [bne_iff_ne]; omega
    clear her hput
    go_wp2_with fail
    go_ret2
    exact ⟨A, n, c, by rw [HP.out]; rfl, by rw [HP.out]; exact HK2.out.now.1.2, by omega, HK2.out.now.2⟩
end Go.Proofs.Ytgcnodbinmgobaa
