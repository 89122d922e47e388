/- Frames one behind the other: where they end; a list of lists that is handed in. -/
import Derived.Test.YtcdaioljddaopaaFrmX
import Derived.Test.YtcdaioljddaopaaFrmV
import Derived.Test.YtcdaioljddaopaaLibI
namespace Go.Proofs.Ytcdaioljddaopaa
open Go.RowKit

def endsL (gl : List (List UInt8)) : List Int := (List.range gl.length).map fun j => ((seals (gl.take (j + 1))).length : Int)
theorem endsL_length (gl : List (List UInt8)) : (endsL gl).length = gl.length := by simp [endsL]
theorem endsL_snoc (gl : List (List UInt8)) (p : List UInt8) : endsL (gl ++ [p]) = endsL gl ++ [((seals (gl ++ [p])).length : Int)] := by
  unfold endsL
  rw [List.length_append, List.length_singleton, List.range_succ, List.map_append, List.map_singleton]
  congr 1
  · apply List.map_congr_left
    intro j hj
    rw [List.mem_range] at hj
    rw [List.take_append_of_le_length (by omega)]
  · rw [List.take_of_length_le (by simp)]
theorem endsL_get (gl : List (List UInt8)) {k : Nat} (hk : k < gl.length) : (endsL gl).getD k 0 = ((seals (gl.take (k + 1))).length : Int) := by
  simp [endsL, List.getD, hk]
theorem seals_take {gl : List (List UInt8)} {k : Nat} {p : List UInt8} (h : gl[k]? = some p) : seals (gl.take (k + 1)) = seals (gl.take k) ++ sealL p := by
  rw [List.take_add_one, h, seals_append]
  simp [seals]
theorem seals_take_le {gl : List (List UInt8)} {k : Nat} : (seals (gl.take k)).length ≤ (seals gl).length := by
  have : seals gl = seals (gl.take k) ++ seals (gl.drop k) := by rw [← seals_append, List.take_append_drop]
  rw [this, List.length_append]
  omega
theorem seals_bound : ∀ (gl : List (List UInt8)), (∀ p ∈ gl, p.length ≤ 4096) → (seals gl).length ≤ 4120 * gl.length
  | [], _ => by simp [seals]
  | p :: ps, h => by
    have h1 := seals_bound ps fun q hq => h q (by simp [hq])
    have h2 := h p (by simp)
    have h3 := uintL_len64 (n := p.length) (by omega)
    have h4 := sealL_length p
    simp only [seals, List.length_append, List.length_cons]
    omega

theorem choose_list {α : Type} [Inhabited α] {P : Nat → α → Prop} {n : Nat} (h : ∀ i, i < n → ∃ x, P i x) : ∃ xs : List α, xs.length = n ∧ ∀ i, i < n → ∃ x, xs[i]? = some x ∧ P i x := by
  induction n with
  | zero => exact ⟨[], rfl, fun i hi => absurd hi (by omega)⟩
  | succ n ih =>
    obtain ⟨xs, hl, hx⟩ := ih fun i hi => h i (by omega)
    obtain ⟨y, hy⟩ := h n (by omega)
    refine ⟨xs ++ [y], by simp [hl], fun i hi => ?_⟩
    rcases Nat.lt_or_ge i n with h1 | h1
    · obtain ⟨x, h2, h3⟩ := hx i h1
      exact ⟨x, by rw [List.getElem?_append_left (by omega)]; exact h2, h3⟩
    · obtain rfl : i = n := by omega
      exact ⟨y, by rw [List.getElem?_append_right (by omega), hl]; simp, hy⟩
theorem cells_rows : Try.prog.cellsOf 23 = 1 := by kernel_rfl
theorem bytes_rows : Try.prog.bytesOf 23 = 24 := by kernel_rfl
/-- A list of lists of bytes that is handed in. -/
theorem val_rows {w : World} {v : Value} (h : Val Try.prog w 48 v) : ∃ A n c vs ls, v = .slice A n c ∧ Reads w w.heap.size 1 A n vs ∧ RowsR w vs ls ∧ (∀ l ∈ ls, l.length ≤ 140737488351232) ∧ n ≤ c ∧ c ≤ 5864062014634 := by
  rcases val_slice Try.underlying48 h with rfl | ⟨a, len, cap, rfl, hl, hm, hb, hc⟩
  · exact ⟨none, 0, 0, [], [], rfl, Reads.none_, ⟨rfl, fun _ _ _ h => by simp at h⟩, by simp, Nat.le_refl _, by omega⟩
  · rw [bytes_rows] at hb
    unfold reachBytes at hb
    have hrow : ∀ i, i < len → ∃ x : Value × List UInt8, w.cell? (a.add i) = some x.1 ∧ x.2.length ≤ 140737488351232 ∧ ∃ A c, x.1 = .slice A x.2.length c ∧ Reads w w.heap.size 1 A x.2.length (u8s x.2) := by
      intro i hi
      obtain ⟨m, cs, h1, h2, h3⟩ := hc i (by omega)
      rw [cells_rows] at h1 h2
      match cs, h1 with
      | [u], _ =>
        have hcell := h2 0 (by omega)
        rw [add_of_add] at hcell
        simp only [Nat.mul_one, Nat.add_zero, List.getElem?_cons_zero] at hcell
        rcases cel_slice Try.underlying23 h3 with h4 | ⟨a2, len2, cap2, h4, hl2, hm2, hb2, hc2⟩
        · simp only [List.cons.injEq, and_true] at h4
          subst h4
          exact ⟨(.slice none 0 0, []), hcell, by simp, none, 0, rfl, Reads.none_⟩
        · simp only [List.cons.injEq, and_true] at h4
          subst h4
          obtain ⟨l, hr⟩ := bytes_of w a2 len2 cap2 hl2 hc2
          rw [bytes_u8] at hb2
          unfold reachBytes at hb2
          have hll := hr.len_
          refine ⟨(.slice (some a2) len2 cap2, l), hcell, by simp only; omega, some a2, cap2, by simp only [hll], ?_⟩
          simp only [hll]
          exact hr
    obtain ⟨xs, hxl, hx⟩ := choose_list hrow
    refine ⟨some a, len, cap, xs.map (·.1), xs.map (·.2), rfl, ⟨by simp [hxl], fun hn => ⟨a, rfl, ?_, fun j u hu => ?_⟩⟩, ⟨by simp, fun i v l hv hl' => ?_⟩, fun l hl' => ?_, hl, by omega⟩
    · obtain ⟨x, _, h, _⟩ := hx 0 hn
      have := World.block_lt_of_cell? w _ h
      rwa [block_of_add] at this
    · have hj : j < len := by
        have := (List.getElem?_eq_some_iff.1 hu).1
        simpa [hxl] using this
      obtain ⟨x, h1, h2, _⟩ := hx j hj
      rw [List.getElem?_map, h1] at hu
      simp only [Option.map_some, Option.some.injEq] at hu
      rw [← hu]
      exact h2
    · have hi : i < len := by
        have := (List.getElem?_eq_some_iff.1 hv).1
        simpa [hxl] using this
      obtain ⟨x, h1, _, _, h2⟩ := hx i hi
      rw [List.getElem?_map, h1] at hv hl'
      simp only [Option.map_some, Option.some.injEq] at hv hl'
      subst hv hl'
      exact h2
    · obtain ⟨x, hx1, rfl⟩ := List.mem_map.1 hl'
      obtain ⟨i, hi, e⟩ := List.mem_iff_getElem.1 hx1
      obtain ⟨y, h1, _, h2, _⟩ := hx i (by omega)
      rw [List.getElem?_eq_getElem hi, e] at h1
      injection h1 with h1
      subst h1
      exact h2
end Go.Proofs.Ytcdaioljddaopaa
