/- walk: the reference's Get -/
import Derived.Test.YtgcnodbinmgobaaMemJ
namespace Go.Proofs.Ytgcnodbinmgobaa
open Go.RowKit

theorem scan_next {key : ByteArray} {s : Int} {z : Ent} {l : List Ent} {k : Nat} {y b : Ent} {f : Bool} (hy : l[k]? = some y) (h : scanL key s z (l.take k) = (b, f)) :
    scanL key s z (l.take (k + 1)) = if hits key s y && (!f || decide (b.seq < y.seq)) then (y, true) else (b, f) := by
  rw [List.take_add_one, hy, Option.toList_some, scanL_snoc, h]
  rfl
theorem Blk.far4 {w : World} {g g' t : Nat} {cs : Array Value} {a' b' c' d' : Value} (h : Blk w g t cs) (hne : g ≠ g') : Blk ((((w.setCell ⟨g', 0, none⟩ a').setCell ⟨g', 1, none⟩ b').setCell ⟨g', 2, none⟩ c').setCell ⟨g', 3, none⟩ d') g t cs :=
  (((h.far (p := ⟨g', 0, none⟩) hne _).far (p := ⟨g', 1, none⟩) hne _).far (p := ⟨g', 2, none⟩) hne _).far (p := ⟨g', 3, none⟩) hne _
set_option maxRecDepth 100000 in
set_option maxHeartbeats 4000000 in
theorem refget_any (B : Nat) (A : Option Addr) (n c : Nat) (l : List Ent) (key : ByteArray) (s : Int) (w : World) (h : Own w B 28 4 A n c (ents l)) (ho : Ordered l) (hn : n ≤ 1000) :
    Calls Try.prog 18 #[.slice A n c, .string key, .int .i64 s] w fun e w' =>
      e = .returned (.tuple #[(getE (getL l key s)).agg, .bool (getL l key s).isSome]) ∧ Below w.heap.size w w' := by
  have hln := h.ents_length
  have hsc := scan_getL ho key s zeroE
  obtain ⟨G, hG⟩ : ∃ G, G = getL l key s := ⟨_, rfl⟩
  rw [← hG] at hsc ⊢
  have HSC := Lib.hid hsc
  have HLN := Lib.hid hln
  have HX := Lib.hid h.keepsR
  clear hln hG hsc ho h
  go_enter Try.func18, Try.ntmps18
  go_wp2_with fail
  obtain ⟨w1, hw1⟩ : ∃ v, v = (w.alloc (.cells #[.string ⟨#[]⟩, .int .i64 0, .bool false, .string ⟨#[]⟩] 28)).alloc (.cells #[.string ⟨#[]⟩, .int .i64 0, .bool false, .string ⟨#[]⟩] 28) := ⟨_, rfl⟩
  rw [← hw1]
  have hb1 : Below w.heap.size w w1 := by rw [hw1]; exact ((Below.refl _ w).alloc (Nat.le_refl _) _).alloc (by simp) _
  have hk0 : Blk w1 w.heap.size 28 #[.string ⟨#[]⟩, .int .i64 0, .bool false, .string ⟨#[]⟩] := by rw [hw1]; exact (Blk.new w _ _).alloc _
  have hk1 : Blk w1 (w.heap.size + 1) 28 #[.string ⟨#[]⟩, .int .i64 0, .bool false, .string ⟨#[]⟩] := by rw [hw1]; exact Blk.new_ (by simp) _ _
  clear hw1
  obtain ⟨g0, hg0⟩ : ∃ g, g = w.heap.size := ⟨_, rfl⟩
  rw [← hg0] at hk0 hk1 ⊢
  have HW := Lib.hid hg0
  have HB1 := Lib.hid hb1
  have HK0 := Lib.hid hk0
  have HK1 := Lib.hid hk1
  clear hb1 hk0 hk1 hg0
  go_loopw [9, 10] (fun fv iv wr => ∃ (k : Nat) (b : Ent) (f : Bool), fv = .bool f ∧ iv = .int .i64 k ∧ k ≤ n ∧ scanL key s zeroE (l.take k) = (b, f) ∧ Blk wr (g0 + 1) 28 #[.string b.key, .int .i64 b.seq, .bool b.del, .string b.val] ∧ Blk wr g0 28 #[.string ⟨#[]⟩, .int .i64 0, .bool false, .string ⟨#[]⟩] ∧ Below w.heap.size w wr) (fun _ iv _ => n - (intOf iv).toNat)
  case atStart => exact ⟨0, zeroE, false, rfl, rfl, by omega, rfl, HK1.out, HK0.out, HB1.out⟩
  case round =>
    obtain ⟨k, b, f, rfl, rfl, hk, hsk, hk1, hk0, hb⟩ := hrel
    have HS := Lib.hid hsk
    have HG1 := Lib.hid hk1
    have HG0 := Lib.hid hk0
    have HB := Lib.hid hb
    have hgw : w.heap.size ≤ g0 := by rw [HW.out]; exact Nat.le_refl _
    clear hsk hk1 hk0 hb
    by_cases hkn : (k : Int) < (n : Int)
    · obtain ⟨ad, y, rfl, hab, hy, hc⟩ := (HX.out.at_ HB.out).ent (k := k) (by omega)
      have hki : (0 : Int) ≤ (k : Int) := by omega
      have hkc := HG1.out.c4
      have hnext := scan_next hy HS.out
      clear hy hab
      by_cases hke : y.key.toList = key.toList
      · have hkb : (y.key.toList == key.toList) = true := by simpa using hke
        by_cases hse : y.seq ≤ s
        · rw [show hits key s y = true from hits_iff.2 ⟨hke, hse⟩] at hnext
          have HKE := Lib.hid hke
          clear hke
          cases f with
          | false =>
            simp at hnext
            have HN := Lib.hid hnext
            clear hnext
            go_wp2_with fail
            go_quiet (fail)
            go_wp2_with fail
            go_roundw
            case rel => exact ⟨k + 1, y, true, rfl, by go_num, by omega, HN.out, (HG1.out.drewN _).put4, (HG0.out.drewN _).far4 (by omega), below_put4 (below_drewN HB.out _) (by omega)⟩
            case measure => simp [intOf]; omega
          | true =>
            by_cases hlt : b.seq < y.seq
            · simp [hlt] at hnext
              have HN := Lib.hid hnext
              clear hnext
              go_wp2_with fail
              go_quiet (fail)
              go_wp2_with fail
              go_roundw
              case rel => exact ⟨k + 1, y, true, rfl, by go_num, by omega, HN.out, (HG1.out.drewN _).put4, (HG0.out.drewN _).far4 (by omega), below_put4 (below_drewN HB.out _) (by omega)⟩
              case measure => simp [intOf]; omega
            · simp [hlt] at hnext
              have HN := Lib.hid hnext
              clear hnext
              go_wp2_with fail
              go_quiet (fail)
              go_wp2_with fail
              go_roundw
              case rel => exact ⟨k + 1, b, true, by first | rfl | go_num, by go_num, by omega, HN.out, HG1.out.drewN _, HG0.out.drewN _, below_drewN HB.out _⟩
              case measure => simp [intOf]; omega
        · rw [show hits key s y = false from by simp [hits, hse]] at hnext
          simp at hnext
          have hsd : decide (y.seq ≤ s) = false := decide_eq_false hse
          have HKE := Lib.hid hke
          clear hke
          have HN := Lib.hid hnext
          clear hnext
          go_wp2_with fail
          go_quiet (fail)
          go_wp2_with fail
          go_roundw
          case rel => exact ⟨k + 1, b, f, by first | rfl | go_num, by go_num, by omega, HN.out, HG1.out.drewN _, HG0.out.drewN _, below_drewN HB.out _⟩
          case measure => simp [intOf]; omega
      · have hkb : (y.key.toList == key.toList) = false := by simpa using hke
        rw [show hits key s y = false from by simp [hits, hke]] at hnext
        simp at hnext
        have HKE := Lib.hid hke
        clear hke
        have HN := Lib.hid hnext
        clear hnext
        go_wp2_with fail
        go_quiet (fail)
        go_wp2_with fail
        go_roundw
        case rel => exact ⟨k + 1, b, f, by first | rfl | go_num, by go_num, by omega, HN.out, HG1.out.drewN _, HG0.out.drewN _, below_drewN HB.out _⟩
        case measure => simp [intOf]; omega
    · have hfin := HS.out
      rw [List.take_of_length_le (by have := HLN.out; omega), HSC.out] at hfin
      injection hfin with h1 h2
      have H1 := Lib.hid h1
      have H2 := Lib.hid h2
      have hkc := HG1.out.c4
      have hkc0 := HG0.out.c4
      clear h1 h2
      go_wp2_with fail
      have hk3 := (HG0.out.put4 (a' := .string b.key) (b' := .int .i64 b.seq) (c' := .bool b.del) (d' := .string b.val)).c4
      refine bodyPost_ret (v := .tuple #[b.agg, .bool f]) (by simp [results, Try.results18, go_sem, Ent.agg, hk3]) rfl ⟨by unfold getE; rw [H1.out, H2.out], below_put4 HB.out hgw⟩
end Go.Proofs.Ytgcnodbinmgobaa
