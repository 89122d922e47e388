/- arguments of bytes -/
import Derived.Test.YtmlkjeaoaanogaaRows
import Derived.Test.YtmlkjeaoaanogaaLibD
import Derived.Test.YtmlkjeaoaanogaaLibA
namespace Go.Proofs.Ytmlkjeaoaanogaa
open Go.RowKit

theorem u8_castB {m : Nat} (h : m < 256) : ((UInt8.ofNat m).toNat : Int) = m := by simp; omega
theorem cells_u8 : Try.prog.cellsOf 5 = 1 := by kernel_rfl
theorem bytes_u8 : Try.prog.bytesOf 5 = 1 := by kernel_rfl

theorem bytes_of (w : World) (a : Addr) (len cap : Nat) (hl : len ≤ cap)
    (hc : ∀ i, i < cap → ∃ m cs', cs'.length = Try.prog.cellsOf 5 ∧ (∀ j, j < Try.prog.cellsOf 5 → w.cell? ((a.add (i * Try.prog.cellsOf 5)).add j) = cs'[j]?) ∧ Cel Try.prog w m 5 cs') :
    ∃ l : List UInt8, Reads w w.heap.size 1 (some a) len (u8s l) := by
  have hx : ∀ i, i < cap → ∃ x : UInt8, w.cell? (a.add i) = some (.int .u8 x.toNat) := by
    intro i hi
    rw [cells_u8] at hc
    obtain ⟨m, cs, h1, h2, h3⟩ := hc i hi
    obtain ⟨x, rfl, hw⟩ := cel_int Try.underlying5 h3
    have hw2 : 0 ≤ x ∧ x < 256 := by
      simp only [Lit.wf, Bool.and_eq_true, decide_eq_true_eq] at hw
      have e1 : IntKind.u8.min = 0 := by decide
      have e2 : IntKind.u8.max = 255 := by decide
      omega
    refine ⟨UInt8.ofNat x.toNat, ?_⟩
    have h := h2 0 (by omega)
    rw [add_of_add] at h
    rw [u8_castB (by omega), Int.toNat_of_nonneg hw2.1]
    simpa using h
  refine ⟨(List.range len).map (fun i => match w.cell? (a.add i) with | some (.int _ x) => UInt8.ofNat x.toNat | _ => 0), by simp [u8s], fun hn => ⟨a, rfl, ?_, fun j u hu => ?_⟩⟩
  · obtain ⟨x, h⟩ := hx 0 (by omega)
    have := World.block_lt_of_cell? w _ h
    rwa [block_of_add] at this
  · have hj : j < len := by
      have := (List.getElem?_eq_some_iff.1 hu).1
      simpa [u8s] using this
    obtain ⟨x, h⟩ := hx j (by omega)
    rw [h]
    simp only [u8s, List.getElem?_map, List.getElem?_range hj, Option.map_some, h] at hu
    rw [← hu]
    simp
/-- A slice of bytes that is handed in. -/
theorem val_bytes {w : World} {v : Value} (h : Val Try.prog w 25 v) : ∃ A n c l, v = .slice A n c ∧ Reads w w.heap.size 1 A n (u8s l) ∧ n ≤ c ∧ c ≤ 140737488351232 := by
  rcases val_slice Try.underlying25 h with rfl | ⟨a, len, cap, rfl, hl, hm, hb, hc⟩
  · exact ⟨none, 0, 0, [], rfl, Reads.none_, Nat.le_refl _, by omega⟩
  · obtain ⟨l, hr⟩ := bytes_of w a len cap hl hc
    rw [bytes_u8] at hb
    unfold reachBytes at hb
    exact ⟨some a, len, cap, l, rfl, hr, hl, by omega⟩
end Go.Proofs.Ytmlkjeaoaanogaa
