/-
  A slice cut: 's[lo:]', 's[lo:hi]': where it lies is one name, so that the walk needs no case on the capacity.
-/
import Derived.Test.YtgidkjfakecniaaLibK
namespace Go.Proofs.Ytgidkjfakecniaa
open Go.RowKit

section
variable {P : Program} {t e : TypeId} {size : Nat}
theorem cut_low (ht : P.underlying t = some (.slice e)) (hz : (P.info? e).map (·.size) = some size) (A : Option Addr) {n c lo : Nat} (hlo : lo ≤ n) (hn : n ≤ c) :
    ∃ PA, (∀ w, (Instr.slice t (.slice A n c) (some (.int .i64 (lo : Int))) none none).run P w = .ok (.slice PA (n - lo) (c - lo)) w) ∧
      ∀ w B xs, Reads w B size A n xs → Reads w B size PA (n - lo) (xs.drop (lo * size)) := by
  obtain ⟨i, hi, hs⟩ := Option.map_eq_some_iff.1 hz
  refine ⟨if c = lo then A else A.map (·.add (lo * size)), fun w => ?_, fun w B xs hr => hr.cut hlo hn⟩
  simp [Instr.slice, Instr.sliceBounds, Instr.sliceBound, asIntOf, run_underlying ht, sizeOf, typeInfo, hi, hs, hlo]
theorem cut_both (ht : P.underlying t = some (.slice e)) (hz : (P.info? e).map (·.size) = some size) (A : Option Addr) {n c lo hi : Nat} (hlo : lo ≤ hi) (hhi : hi ≤ n) (hn : n ≤ c) :
    ∃ PA, (∀ w, (Instr.slice t (.slice A n c) (some (.int .i64 (lo : Int))) (some (.int .i64 (hi : Int))) none).run P w = .ok (.slice PA (hi - lo) (c - lo)) w) ∧
      ∀ w B xs, Reads w B size A n xs → Reads w B size PA (hi - lo) ((xs.drop (lo * size)).take ((hi - lo) * size)) := by
  obtain ⟨i, hi', hs⟩ := Option.map_eq_some_iff.1 hz
  refine ⟨if c = lo then A else A.map (·.add (lo * size)), fun w => ?_, fun w B xs hr => (hr.cut (Nat.le_trans hlo hhi) hn).take (by omega)⟩
  have h2 : hi ≤ c := by omega
  simp [Instr.slice, Instr.sliceBounds, Instr.sliceBound, asIntOf, run_underlying ht, sizeOf, typeInfo, hi', hs, hlo, h2]
theorem cut_high (ht : P.underlying t = some (.slice e)) (hz : (P.info? e).map (·.size) = some size) (A : Option Addr) {n c hi : Nat} (hhi : hi ≤ c) (w : World) :
    (Instr.slice t (.slice A n c) none (some (.int .i64 (hi : Int))) none).run P w = .ok (.slice A hi c) w := by
  obtain ⟨i, hi', -⟩ := Option.map_eq_some_iff.1 hz
  have h3 : A.map (·.add 0) = A := by cases A <;> simp [Addr.add]
  have h4 : Option.map (fun x => x.add 0) A = A := h3
  simp [Instr.slice, Instr.sliceBounds, Instr.sliceBound, asIntOf, run_underlying ht, sizeOf, typeInfo, hi', hhi, h4]
end
end Go.Proofs.Ytgidkjfakecniaa
