/- convoyref01.Ints: are two lists of numbers the same? -/
import Derived.Test.YtgkibmdkhldnpaaRows
import Derived.Test.YtgkibmdkhldnpaaLibC
import Derived.WalkSpells
import Derived.WalkLawsBesides
import Derived.BigQuiet
namespace Go.Proofs.Ytgkibmdkhldnpaa
open Go.RowKit

/-- A list of numbers as cells. -/
def ints (xs : List Int) : List Value := xs.map (Value.int .i64)
theorem ints_length (xs : List Int) : (ints xs).length = xs.length := by simp [ints]
theorem ints_one (xs : List Int) : ∀ u ∈ ints xs, u.oneCell' = true := by
  intro u hu
  simp only [ints, List.mem_map] at hu
  obtain ⟨x, _, rfl⟩ := hu
  rfl
theorem ints_get (xs : List Int) (k : Nat) : (ints xs)[k]? = (xs[k]?).map (Value.int .i64) := by simp [ints]
theorem Reads.int_ {w : World} {B n : Nat} {A : Option Addr} {xs : List Int} (h : Reads w B 1 A n (ints xs)) {k : Nat} (hk : k < n) : ∃ ad, A = some ad ∧ ad.block < B ∧ w.cell? (ad.add k) = some (.int .i64 (xs.getD k 0)) := by
  obtain ⟨ad, u, e, hb, hx, hc⟩ := h.at_ hk
  refine ⟨ad, e, hb, ?_⟩
  have hl : k < xs.length := by have := h.1; rw [ints_length] at this; omega
  rw [ints_get, List.getElem?_eq_getElem hl] at hx
  rw [hc, ← hx]
  simp [List.getD, List.getElem?_eq_getElem hl]

theorem take_eq_succ {xs ys : List Int} {k : Nat} (h : xs.take k = ys.take k) (hx : k < xs.length) (hy : k < ys.length) (e : xs.getD k 0 = ys.getD k 0) : xs.take (k + 1) = ys.take (k + 1) := by
  rw [List.take_succ_eq_append_getElem hx, List.take_succ_eq_append_getElem hy, h]
  simp only [List.getD, List.getElem?_eq_getElem hx, List.getElem?_eq_getElem hy, Option.getD_some] at e
  rw [e]

set_option maxHeartbeats 1000000 in
theorem ints_any (A D : Option Addr) (n c m d B : Nat) (xs ys : List Int) (w : World) (hx : Reads w B 1 A n (ints xs)) (hy : Reads w B 1 D m (ints ys)) (hn : n ≤ 17592186044415) (hm : m ≤ 17592186044415) :
    Calls Try.prog 23 #[.slice A n c, .slice D m d] w fun e w' => e = .returned (.bool (decide (xs = ys))) ∧ ∃ q, w' = w.drewN q := by
  have lx : xs.length = n := by have := hx.1; rw [ints_length] at this; omega
  have ly : ys.length = m := by have := hy.1; rw [ints_length] at this; omega
  have LX := Lib.hid lx
  have LY := Lib.hid ly
  have HX := Lib.hid hx
  have HY := Lib.hid hy
  clear lx ly hx hy
  by_cases hnm : n = m
  · subst hnm
    go_enter Try.func23, Try.ntmps23
    go_wp2_with fail
    go_loopw [13] (fun iv wr => ∃ k q : Nat, iv = .int .i64 k ∧ k ≤ n ∧ xs.take k = ys.take k ∧ wr = w.drewN q) (fun iv _ => n - (intOf iv).toNat)
    case atStart => exact ⟨0, 0, rfl, by omega, by simp, rfl⟩
    case round =>
      obtain ⟨k, q, rfl, hk, htk, rfl⟩ := hrel
      have HK := Lib.hid htk
      clear htk
      by_cases hlt : k < n
      · obtain ⟨ax, rfl, _, cx⟩ := HX.out.int_ hlt
        obtain ⟨ay, rfl, _, cy⟩ := HY.out.int_ hlt
        have h0 : (0 : Int) ≤ (k : Int) := by omega
        have h1 : (k : Int) < (n : Int) := by omega
        obtain ⟨x, hx⟩ : ∃ x, x = xs.getD k 0 := ⟨_, rfl⟩
        obtain ⟨y, hy⟩ : ∃ y, y = ys.getD k 0 := ⟨_, rfl⟩
        rw [← hx] at cx
        rw [← hy] at cy
        have EX := Lib.hid hx
        have EY := Lib.hid hy
        clear hx hy
        by_cases hxy : x = y
        · have hb : (x != y) = false := by simp [hxy]
          have EXY := Lib.hid hxy
          clear hxy
          go_wp2_with fail
          go_quiet (fail)
          go_wp2_with fail
          go_roundw
          case rel => exact ⟨k + 1, _, by go_num, by omega, take_eq_succ HK.out (by rw [LX.out]; exact hlt) (by rw [LY.out]; exact hlt) (by rw [← EX.out, ← EY.out]; exact EXY.out), by first | rfl | (rw [World.drewN_drewN])⟩
          case measure => simp [intOf]; omega
        · have hb : (x != y) = true := by simp [hxy]
          have EXY := Lib.hid hxy
          clear hxy
          have hne : decide (xs = ys) = false := by
            rw [decide_eq_false_iff_not]
            rintro rfl
            exact EXY.out (by rw [EX.out, EY.out])
          have HN := Lib.hid hne
          clear hne
          go_wp2_with fail
          go_quiet (fail)
          go_wp2_with fail
          go_ret
          exact ⟨by rw [HN.out]; rfl, _, by first | rfl | (rw [World.drewN_drewN])⟩
      · have he : decide (xs = ys) = true := by
          rw [decide_eq_true_iff]
          have := HK.out
          rw [List.take_of_length_le (by rw [LX.out]; omega), List.take_of_length_le (by rw [LY.out]; omega)] at this
          exact this
        have HE := Lib.hid he
        clear he
        go_wp2_with fail
        go_ret
        exact ⟨by rw [HE.out]; rfl, q, rfl⟩
  · have hb : ((n : Int) != (m : Int)) = true := by rw [bne_iff_ne]; omega
    have hne : decide (xs = ys) = false := by
      rw [decide_eq_false_iff_not]
      rintro rfl
      exact hnm (LX.out.symm.trans LY.out)
    have HN := Lib.hid hne
    clear hne hnm
    go_enter Try.func23, Try.ntmps23
    go_wp2_with fail
    go_ret
    exact ⟨by rw [HN.out]; rfl, 0, rfl⟩
end Go.Proofs.Ytgkibmdkhldnpaa
