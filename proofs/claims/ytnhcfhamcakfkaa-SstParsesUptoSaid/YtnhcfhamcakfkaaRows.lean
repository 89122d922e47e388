/-
  No cell of these rows narrows 'for every input' (looked for: loops, veiled, ifaces, maps, wideKeys, modest, calm, conditions, laid).
  DERIVED. THE GIVEN ROWS OF THIS SEAT. 5 by the template 'for every input the law returns true; each argument reads behind the call as it read before'; 0 by the template 'total and deterministic' (their statements: YtnhcfhamcakfkaaTotals.lean).
  GIVEN WITH THE SEED: the statements are not yours to turn. If you find one false, say at which input.
  Laid BY PROGRAM, IN A SANDBOX (cutbox-rows.mjs): the forced cells as the released guide's own fill.sh prints them over the translation 73ccbaadef75a295… (all of the seat's roots in one cut). By AI agents, Wed Nov 11 2026. No macro, syntax, notation, axiom, sorry.
-/
import Derived.Test.YtnhcfhamcakfkaaChecked
import GoSem.Claim
import GoSem.ClaimJoined
import GoSem.ClaimMapViews
import Derived.JoinedTies
import Derived.KernelRfl
namespace Go.Proofs.Ytnhcfhamcakfkaa
/- THE CELL 'sum', in the pinned program and in every row, IS THE sha256 OF THE DUMP (.gsa) THAT YtnhcfhamcakfkaaProg.lean LOADS. Nothing in Lean hashes anything: it is a label: what it is worth is what the hold of that sum in a sandbox is worth. -/
noncomputable def Try.pinned : Pinned := { name := "ytnhcfhamcakfkaa", sum := "73ccbaadef75a2956447c2a1ef401d63416d61727a0fade8ba576365c073bed0", checked := Try.checked }
namespace Rows
def none {H : Type} : Left H := { results := [], args := [] }

/-- 'convoylaw06.SstBuilds': WHATEVER THE INPUT: true; the input reads as it did. -/
def sstBuildsSpec : ChangeSpec := { name := "sstBuilds", fn := fun _ => fun
  | [d] => { results := [.lit (.bool true)], args := [d] }
  | _ => none }
def sstBuildsRow : OpenClaim := { program := "ytnhcfhamcakfkaa", sum := "73ccbaadef75a2956447c2a1ef401d63416d61727a0fade8ba576365c073bed0", func := "convoy/convoylaw06.SstBuilds", spec := "sstBuilds", unfollowed := true, recurses := true, apart := false }
def SstBuildsSaid : Prop := sstBuildsRow.holds Try.pinned (OpenSpec.ofChange sstBuildsSpec)

/-- ITS FALSE NEIGHBOUR: 'it returns false'. Refute it at one input. -/
def sstBuildsWrong : ChangeSpec := { name := "sstBuilds", fn := fun _ => fun
  | [d] => { results := [.lit (.bool false)], args := [d] }
  | _ => none }
def SstBuildsWrongFalsely : Prop := sstBuildsRow.holds Try.pinned (OpenSpec.ofChange sstBuildsWrong)

/-- 'convoylaw06.SstParses': WHATEVER THE INPUT: true; the input reads as it did. -/
def sstParsesSpec : ChangeSpec := { name := "sstParses", fn := fun _ => fun
  | [d] => { results := [.lit (.bool true)], args := [d] }
  | _ => none }
def sstParsesRow : OpenClaim := { program := "ytnhcfhamcakfkaa", sum := "73ccbaadef75a2956447c2a1ef401d63416d61727a0fade8ba576365c073bed0", func := "convoy/convoylaw06.SstParses", spec := "sstParses", unfollowed := true, recurses := true, apart := false }
def SstParsesSaid : Prop := sstParsesRow.holds Try.pinned (OpenSpec.ofChange sstParsesSpec)

/-- ITS FALSE NEIGHBOUR: 'it returns false'. Refute it at one input. -/
def sstParsesWrong : ChangeSpec := { name := "sstParses", fn := fun _ => fun
  | [d] => { results := [.lit (.bool false)], args := [d] }
  | _ => none }
def SstParsesWrongFalsely : Prop := sstParsesRow.holds Try.pinned (OpenSpec.ofChange sstParsesWrong)

/-- 'convoylaw06.SstBlocks': WHATEVER THE INPUT: true; the input reads as it did. -/
def sstBlocksSpec : ChangeSpec := { name := "sstBlocks", fn := fun _ => fun
  | [d1, d2, d3] => { results := [.lit (.bool true)], args := [d1, d2, d3] }
  | _ => none }
def sstBlocksRow : OpenClaim := { program := "ytnhcfhamcakfkaa", sum := "73ccbaadef75a2956447c2a1ef401d63416d61727a0fade8ba576365c073bed0", func := "convoy/convoylaw06.SstBlocks", spec := "sstBlocks", unfollowed := true, recurses := true, apart := false }
def SstBlocksSaid : Prop := sstBlocksRow.holds Try.pinned (OpenSpec.ofChange sstBlocksSpec)

/-- ITS FALSE NEIGHBOUR: 'it returns false'. Refute it at one input. -/
def sstBlocksWrong : ChangeSpec := { name := "sstBlocks", fn := fun _ => fun
  | [d1, d2, d3] => { results := [.lit (.bool false)], args := [d1, d2, d3] }
  | _ => none }
def SstBlocksWrongFalsely : Prop := sstBlocksRow.holds Try.pinned (OpenSpec.ofChange sstBlocksWrong)

/-- 'convoylaw06.SstReads': WHATEVER THE INPUT: true; the input reads as it did. -/
def sstReadsSpec : ChangeSpec := { name := "sstReads", fn := fun _ => fun
  | [d1, d2, d3] => { results := [.lit (.bool true)], args := [d1, d2, d3] }
  | _ => none }
def sstReadsRow : OpenClaim := { program := "ytnhcfhamcakfkaa", sum := "73ccbaadef75a2956447c2a1ef401d63416d61727a0fade8ba576365c073bed0", func := "convoy/convoylaw06.SstReads", spec := "sstReads", unfollowed := true, recurses := true, apart := false }
def SstReadsSaid : Prop := sstReadsRow.holds Try.pinned (OpenSpec.ofChange sstReadsSpec)

/-- ITS FALSE NEIGHBOUR: 'it returns false'. Refute it at one input. -/
def sstReadsWrong : ChangeSpec := { name := "sstReads", fn := fun _ => fun
  | [d1, d2, d3] => { results := [.lit (.bool false)], args := [d1, d2, d3] }
  | _ => none }
def SstReadsWrongFalsely : Prop := sstReadsRow.holds Try.pinned (OpenSpec.ofChange sstReadsWrong)

/-- 'convoylaw06.SstOwn': WHATEVER THE INPUT: true; the input reads as it did. -/
def sstOwnSpec : ChangeSpec := { name := "sstOwn", fn := fun _ => fun
  | [d1, d2] => { results := [.lit (.bool true)], args := [d1, d2] }
  | _ => none }
def sstOwnRow : OpenClaim := { program := "ytnhcfhamcakfkaa", sum := "73ccbaadef75a2956447c2a1ef401d63416d61727a0fade8ba576365c073bed0", func := "convoy/convoylaw06.SstOwn", spec := "sstOwn", unfollowed := true, recurses := true, apart := false }
def SstOwnSaid : Prop := sstOwnRow.holds Try.pinned (OpenSpec.ofChange sstOwnSpec)

/-- ITS FALSE NEIGHBOUR: 'it returns false'. Refute it at one input. -/
def sstOwnWrong : ChangeSpec := { name := "sstOwn", fn := fun _ => fun
  | [d1, d2] => { results := [.lit (.bool false)], args := [d1, d2] }
  | _ => none }
def SstOwnWrongFalsely : Prop := sstOwnRow.holds Try.pinned (OpenSpec.ofChange sstOwnWrong)

/- THE SECOND FORM. 'bulk': how many values and letters a reading holds, each counted each time it is reached (what is shared counts as often as it is met; a slice's spare places count too). A statement '..UptoSaid' is the law's where the arguments, and the package variables that the reading takes, are together of bulk at most 1048576: NARROWER than '..Said'. Prove '..Said' where nothing that the law and all that it calls make is longer than what came in: it says more and counts as full. Else prove '..UptoSaid'. A law counts once. -/
mutual
def uptoBulk {H : Type} : DataW H → Nat
  | .lit (.string bytes) => bytes.length + 1
  | .lit _ => 1
  | .nil => 1
  | .ptr d => uptoBulk d + 1
  | .slice elems spare => uptoBulkAll elems + uptoBulkAll spare + 1
  | .agg parts => uptoBulkAll parts + 1
  | .iface _ d => uptoBulk d + 1
  | .map entries => uptoBulkEntries entries + 1
  | .held _ => 1
def uptoBulkAll {H : Type} : List (DataW H) → Nat
  | [] => 0
  | d :: r => uptoBulk d + uptoBulkAll r
def uptoBulkEntries {H : Type} : List (Lit × DataW H) → Nat
  | [] => 0
  | x :: r => uptoBulkEntry x + uptoBulkEntries r
def uptoBulkEntry {H : Type} : Lit × DataW H → Nat
  | (.string bytes, d) => bytes.length + uptoBulk d + 1
  | (_, d) => uptoBulk d + 1
 end
def uptoSmall : (H : Type) → List (DataW H) → Bool := fun _ ds => decide (uptoBulkAll ds ≤ 1048576)
def OpenSpec.upto (s : _root_.Go.ChangeSpec) : _root_.Go.OpenSpec := { _root_.Go.OpenSpec.ofChange s with cond := some uptoSmall }

/-- 'convoylaw06.SstBuilds', WHERE WHAT IT READS IS OF BULK AT MOST 1048576: true; the input reads as it did. -/
def sstBuildsUptoRow : OpenClaim := { program := "ytnhcfhamcakfkaa", sum := "73ccbaadef75a2956447c2a1ef401d63416d61727a0fade8ba576365c073bed0", func := "convoy/convoylaw06.SstBuilds", spec := "sstBuilds", unfollowed := true, recurses := true, apart := false, narrowed := true }
def SstBuildsUptoSaid : Prop := sstBuildsUptoRow.holds Try.pinned (OpenSpec.upto sstBuildsSpec)

/-- 'convoylaw06.SstParses', WHERE WHAT IT READS IS OF BULK AT MOST 1048576: true; the input reads as it did. -/
def sstParsesUptoRow : OpenClaim := { program := "ytnhcfhamcakfkaa", sum := "73ccbaadef75a2956447c2a1ef401d63416d61727a0fade8ba576365c073bed0", func := "convoy/convoylaw06.SstParses", spec := "sstParses", unfollowed := true, recurses := true, apart := false, narrowed := true }
def SstParsesUptoSaid : Prop := sstParsesUptoRow.holds Try.pinned (OpenSpec.upto sstParsesSpec)

/-- 'convoylaw06.SstBlocks', WHERE WHAT IT READS IS OF BULK AT MOST 1048576: true; the input reads as it did. -/
def sstBlocksUptoRow : OpenClaim := { program := "ytnhcfhamcakfkaa", sum := "73ccbaadef75a2956447c2a1ef401d63416d61727a0fade8ba576365c073bed0", func := "convoy/convoylaw06.SstBlocks", spec := "sstBlocks", unfollowed := true, recurses := true, apart := false, narrowed := true }
def SstBlocksUptoSaid : Prop := sstBlocksUptoRow.holds Try.pinned (OpenSpec.upto sstBlocksSpec)

/-- 'convoylaw06.SstReads', WHERE WHAT IT READS IS OF BULK AT MOST 1048576: true; the input reads as it did. -/
def sstReadsUptoRow : OpenClaim := { program := "ytnhcfhamcakfkaa", sum := "73ccbaadef75a2956447c2a1ef401d63416d61727a0fade8ba576365c073bed0", func := "convoy/convoylaw06.SstReads", spec := "sstReads", unfollowed := true, recurses := true, apart := false, narrowed := true }
def SstReadsUptoSaid : Prop := sstReadsUptoRow.holds Try.pinned (OpenSpec.upto sstReadsSpec)

/-- 'convoylaw06.SstOwn', WHERE WHAT IT READS IS OF BULK AT MOST 1048576: true; the input reads as it did. -/
def sstOwnUptoRow : OpenClaim := { program := "ytnhcfhamcakfkaa", sum := "73ccbaadef75a2956447c2a1ef401d63416d61727a0fade8ba576365c073bed0", func := "convoy/convoylaw06.SstOwn", spec := "sstOwn", unfollowed := true, recurses := true, apart := false, narrowed := true }
def SstOwnUptoSaid : Prop := sstOwnUptoRow.holds Try.pinned (OpenSpec.upto sstOwnSpec)

end Rows
end Go.Proofs.Ytnhcfhamcakfkaa
