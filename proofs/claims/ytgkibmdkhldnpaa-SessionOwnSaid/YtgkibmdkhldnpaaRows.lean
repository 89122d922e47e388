/-
  No cell of these rows narrows 'for every input' (looked for: loops, veiled, ifaces, maps, wideKeys, modest, calm, conditions, laid).
  DERIVED. THE GIVEN ROWS OF THIS SEAT. 3 by the template 'for every input the law returns true; each argument reads behind the call as it read before'; 0 by the template 'total and deterministic' (their statements: YtgkibmdkhldnpaaTotals.lean).
  GIVEN WITH THE SEED: the statements are not yours to turn. If you find one false, say at which input.
  Laid BY PROGRAM, IN A SANDBOX (cutbox-rows.mjs): the forced cells as the released guide's own fill.sh prints them over the translation b8dfbf05a955c42c… (all of the seat's roots in one cut). By AI agents, Wed Nov 11 2026. No macro, syntax, notation, axiom, sorry.
-/
import Derived.Test.YtgkibmdkhldnpaaChecked
import GoSem.Claim
import GoSem.ClaimJoined
import GoSem.ClaimMapViews
import Derived.JoinedTies
import Derived.KernelRfl
namespace Go.Proofs.Ytgkibmdkhldnpaa
/- THE CELL 'sum', in the pinned program and in every row, IS THE sha256 OF THE DUMP (.gsa) THAT YtgkibmdkhldnpaaProg.lean LOADS. Nothing in Lean hashes anything: it is a label: what it is worth is what the hold of that sum in a sandbox is worth. -/
noncomputable def Try.pinned : Pinned := { name := "ytgkibmdkhldnpaa", sum := "b8dfbf05a955c42ce5f5b892d537e6d49ebb51c91f95ff05e12e1e02089c1209", checked := Try.checked }
namespace Rows
def none {H : Type} : Left H := { results := [], args := [] }

/-- 'convoylaw19.SessionLeases': WHATEVER THE INPUT: true; the input reads as it did. -/
def sessionLeasesSpec : ChangeSpec := { name := "sessionLeases", fn := fun _ => fun
  | [d1, d2, d3] => { results := [.lit (.bool true)], args := [d1, d2, d3] }
  | _ => none }
def sessionLeasesRow : OpenClaim := { program := "ytgkibmdkhldnpaa", sum := "b8dfbf05a955c42ce5f5b892d537e6d49ebb51c91f95ff05e12e1e02089c1209", func := "convoy/convoylaw19.SessionLeases", spec := "sessionLeases", apart := false }
def SessionLeasesSaid : Prop := sessionLeasesRow.holds Try.pinned (OpenSpec.ofChange sessionLeasesSpec)

/-- ITS FALSE NEIGHBOUR: 'it returns false'. Refute it at one input. -/
def sessionLeasesWrong : ChangeSpec := { name := "sessionLeases", fn := fun _ => fun
  | [d1, d2, d3] => { results := [.lit (.bool false)], args := [d1, d2, d3] }
  | _ => none }
def SessionLeasesWrongFalsely : Prop := sessionLeasesRow.holds Try.pinned (OpenSpec.ofChange sessionLeasesWrong)

/-- 'convoylaw19.SessionFences': WHATEVER THE INPUT: true; the input reads as it did. -/
def sessionFencesSpec : ChangeSpec := { name := "sessionFences", fn := fun _ => fun
  | [d1, d2] => { results := [.lit (.bool true)], args := [d1, d2] }
  | _ => none }
def sessionFencesRow : OpenClaim := { program := "ytgkibmdkhldnpaa", sum := "b8dfbf05a955c42ce5f5b892d537e6d49ebb51c91f95ff05e12e1e02089c1209", func := "convoy/convoylaw19.SessionFences", spec := "sessionFences", apart := false }
def SessionFencesSaid : Prop := sessionFencesRow.holds Try.pinned (OpenSpec.ofChange sessionFencesSpec)

/-- ITS FALSE NEIGHBOUR: 'it returns false'. Refute it at one input. -/
def sessionFencesWrong : ChangeSpec := { name := "sessionFences", fn := fun _ => fun
  | [d1, d2] => { results := [.lit (.bool false)], args := [d1, d2] }
  | _ => none }
def SessionFencesWrongFalsely : Prop := sessionFencesRow.holds Try.pinned (OpenSpec.ofChange sessionFencesWrong)

/-- 'convoylaw19.SessionOwn': WHATEVER THE INPUT: true; the input reads as it did. -/
def sessionOwnSpec : ChangeSpec := { name := "sessionOwn", fn := fun _ => fun
  | [d1, d2] => { results := [.lit (.bool true)], args := [d1, d2] }
  | _ => none }
def sessionOwnRow : OpenClaim := { program := "ytgkibmdkhldnpaa", sum := "b8dfbf05a955c42ce5f5b892d537e6d49ebb51c91f95ff05e12e1e02089c1209", func := "convoy/convoylaw19.SessionOwn", spec := "sessionOwn", apart := false }
def SessionOwnSaid : Prop := sessionOwnRow.holds Try.pinned (OpenSpec.ofChange sessionOwnSpec)

/-- ITS FALSE NEIGHBOUR: 'it returns false'. Refute it at one input. -/
def sessionOwnWrong : ChangeSpec := { name := "sessionOwn", fn := fun _ => fun
  | [d1, d2] => { results := [.lit (.bool false)], args := [d1, d2] }
  | _ => none }
def SessionOwnWrongFalsely : Prop := sessionOwnRow.holds Try.pinned (OpenSpec.ofChange sessionOwnWrong)

/- THE SECOND FORM. 'bulk': how many values and letters a reading holds, each counted each time it is reached (what is shared counts as often as it is met; a slice's spare places count too). A statement '..UptoSaid' is the law's where the arguments, and the package variables that the reading takes, are together of bulk at most 1048576: NARROWER than '..Said'. Prove '..Said' where nothing that the law and all that it calls make is longer than what came in: it says more and counts as full. Else prove '..UptoSaid'. A law counts once. -/
mutual
def uptoBulk {H : Type} : DataW H → Nat
  | .lit (.string bytes) => bytes.length + 1
  | .lit _ => 1
  | .nil => 1
  | .ptr d => uptoBulk d + 1
  | .slice elems spare => uptoBulkAll elems + uptoBulkAll spare + 1
  | .agg parts => uptoBulkAll parts + 1
  | .iface _ d => uptoBulk d + 1
  | .map entries => uptoBulkEntries entries + 1
  | .held _ => 1
def uptoBulkAll {H : Type} : List (DataW H) → Nat
  | [] => 0
  | d :: r => uptoBulk d + uptoBulkAll r
def uptoBulkEntries {H : Type} : List (Lit × DataW H) → Nat
  | [] => 0
  | x :: r => uptoBulkEntry x + uptoBulkEntries r
def uptoBulkEntry {H : Type} : Lit × DataW H → Nat
  | (.string bytes, d) => bytes.length + uptoBulk d + 1
  | (_, d) => uptoBulk d + 1
 end
def uptoSmall : (H : Type) → List (DataW H) → Bool := fun _ ds => decide (uptoBulkAll ds ≤ 1048576)
def OpenSpec.upto (s : _root_.Go.ChangeSpec) : _root_.Go.OpenSpec := { _root_.Go.OpenSpec.ofChange s with cond := some uptoSmall }

/-- 'convoylaw19.SessionLeases', WHERE WHAT IT READS IS OF BULK AT MOST 1048576: true; the input reads as it did. -/
def sessionLeasesUptoRow : OpenClaim := { program := "ytgkibmdkhldnpaa", sum := "b8dfbf05a955c42ce5f5b892d537e6d49ebb51c91f95ff05e12e1e02089c1209", func := "convoy/convoylaw19.SessionLeases", spec := "sessionLeases", apart := false, narrowed := true }
def SessionLeasesUptoSaid : Prop := sessionLeasesUptoRow.holds Try.pinned (OpenSpec.upto sessionLeasesSpec)

/-- 'convoylaw19.SessionFences', WHERE WHAT IT READS IS OF BULK AT MOST 1048576: true; the input reads as it did. -/
def sessionFencesUptoRow : OpenClaim := { program := "ytgkibmdkhldnpaa", sum := "b8dfbf05a955c42ce5f5b892d537e6d49ebb51c91f95ff05e12e1e02089c1209", func := "convoy/convoylaw19.SessionFences", spec := "sessionFences", apart := false, narrowed := true }
def SessionFencesUptoSaid : Prop := sessionFencesUptoRow.holds Try.pinned (OpenSpec.upto sessionFencesSpec)

/-- 'convoylaw19.SessionOwn', WHERE WHAT IT READS IS OF BULK AT MOST 1048576: true; the input reads as it did. -/
def sessionOwnUptoRow : OpenClaim := { program := "ytgkibmdkhldnpaa", sum := "b8dfbf05a955c42ce5f5b892d537e6d49ebb51c91f95ff05e12e1e02089c1209", func := "convoy/convoylaw19.SessionOwn", spec := "sessionOwn", apart := false, narrowed := true }
def SessionOwnUptoSaid : Prop := sessionOwnUptoRow.holds Try.pinned (OpenSpec.upto sessionOwnSpec)

end Rows
end Go.Proofs.Ytgkibmdkhldnpaa
