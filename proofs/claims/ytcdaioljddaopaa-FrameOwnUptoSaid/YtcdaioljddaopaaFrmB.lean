/- walks: Len64 of a small number -/
import Derived.Test.YtcdaioljddaopaaFrmA
import Derived.Lib.Strings
import Derived.Lib.Slices
import Derived.Lib.Small
import Derived.Lib.Walk
import Derived.Lib.BitFns
namespace Go.Proofs.Ytcdaioljddaopaa
open Go.RowKit

set_option maxHeartbeats 4000000 in
set_option maxRecDepth 100000 in
theorem len64_any (x : Int) (w : World) (h0 : 0 ≤ x) (hx : x < 128) :
    Calls Try.prog 30 #[.int .u64 x] w fun e w' => e = .returned (.int .i64 (Lib.bitLen x.toNat)) ∧ w = w' := by
  have h1 : ¬ 4294967296 ≤ x := by omega
  have h2 : ¬ 65536 ≤ x := by omega
  have h3 : ¬ 256 ≤ x := by omega
  go_enter Try.func30, Try.ntmps30
  go_wp2
  go_ret
  refine ⟨congrArg Ending.returned (congrArg (Value.int IntKind.i64) ?_), rfl⟩
  have e := Lib.len8_of x h0 (by omega)
  have l := Lib.bitLen_le8 ⟨x.toNat, by omega⟩
  have hs : x.toNat < Lib.len8tab.size := by rw [Lib.len8tab_size]; omega
  unfold Lib.len8 at e
  rw [getElem?_pos Lib.len8tab x.toNat hs, Option.getD_some] at e
  rw [e]
  dsimp only at l
  have h : ∀ z : Int, 0 ≤ z → z ≤ 8 → wrap64 z = z := by intro z _ _; unfold wrap64; omega
  rw [h (Lib.bitLen x.toNat : Int) (by omega) (by omega), h (Lib.bitLen x.toNat : Int) (by omega) (by omega)]

theorem bitLen_ge : ∀ k : Fin 128, 7 * 9 + Lib.bitLen k.val > 64 ↔ k.val ≥ 2 := by decide +kernel
theorem bitLen_le : ∀ k : Fin 128, Lib.bitLen k.val ≤ 7 := by decide +kernel
end Go.Proofs.Ytcdaioljddaopaa
