/-
  A drawn region by hand: the condition that holds throughout may grow behind a call.
-/
import Derived.Test.YtgidkjfakecniaaLibD
import Derived.Deep.RegionHeld3
namespace Go.Proofs.Ytgidkjfakecniaa
open Go.RowKit

theorem wpAnyH_more {P : Program} {md : Region.Mode} {ops : Array Oper} {Q : Exit → Act → World → Prop} {S S' : World → Prop} (hS : ∀ w, S' w → S w) : ∀ (fuel : Nat) (listed : Array Bool) (a : Act) (w : World), wpAnyH P md ops Q S' fuel listed a w → wpAnyH P md ops Q S fuel listed a w
  | 0, _, _, _, h => h
  | fuel + 1, _, _, _, h => ⟨h.1, fun i hi => wpOp_mono (fun a' w' h' => ⟨hS _ h'.1, wpAnyH_more hS fuel _ a' w' h'.2⟩) (h.2 i hi)⟩
/-- The usual condition: what there was is as it was. -/
theorem below_drew (w : World) : Below w.heap.size w w.drew := (Below.refl _ w).drew
end Go.Proofs.Ytgidkjfakecniaa
