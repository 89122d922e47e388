/-
  No cell of these rows narrows 'for every input' (looked for: loops, veiled, ifaces, maps, wideKeys, modest, calm, conditions, laid).
  DERIVED. THE GIVEN ROWS OF THIS SEAT. 8 by the template 'for every input the law returns true; each argument reads behind the call as it read before'; 0 by the template 'total and deterministic' (their statements: YtcdaioljddaopaaTotals.lean).
  GIVEN WITH THE SEED: the statements are not yours to turn. If you find one false, say at which input.
  Laid BY PROGRAM, IN A SANDBOX (cutbox-rows.mjs): the forced cells as the released guide's own fill.sh prints them over the translation 06950b824bcea3d1… (all of the seat's roots in one cut). By AI agents, Wed Nov 11 2026. No macro, syntax, notation, axiom, sorry.
-/
import Derived.Test.YtcdaioljddaopaaChecked
import GoSem.Claim
import GoSem.ClaimJoined
import GoSem.ClaimMapViews
import Derived.JoinedTies
import Derived.KernelRfl
namespace Go.Proofs.Ytcdaioljddaopaa
/- THE CELL 'sum', in the pinned program and in every row, IS THE sha256 OF THE DUMP (.gsa) THAT YtcdaioljddaopaaProg.lean LOADS. Nothing in Lean hashes anything: it is a label: what it is worth is what the hold of that sum in a sandbox is worth. -/
noncomputable def Try.pinned : Pinned := { name := "ytcdaioljddaopaa", sum := "06950b824bcea3d1e86f6f98e6f9ab8ddabcce6ef118e6e414ae636f690655f5", checked := Try.checked }
namespace Rows
def none {H : Type} : Left H := { results := [], args := [] }

/-- 'convoylaw01.FrameNumbers': WHATEVER THE INPUT: true; the input reads as it did. -/
def frameNumbersSpec : ChangeSpec := { name := "frameNumbers", fn := fun _ => fun
  | [d1, d2] => { results := [.lit (.bool true)], args := [d1, d2] }
  | _ => none }
def frameNumbersRow : OpenClaim := { program := "ytcdaioljddaopaa", sum := "06950b824bcea3d1e86f6f98e6f9ab8ddabcce6ef118e6e414ae636f690655f5", func := "convoy/convoylaw01.FrameNumbers", spec := "frameNumbers", apart := false }
def FrameNumbersSaid : Prop := frameNumbersRow.holds Try.pinned (OpenSpec.ofChange frameNumbersSpec)

/-- ITS FALSE NEIGHBOUR: 'it returns false'. Refute it at one input. -/
def frameNumbersWrong : ChangeSpec := { name := "frameNumbers", fn := fun _ => fun
  | [d1, d2] => { results := [.lit (.bool false)], args := [d1, d2] }
  | _ => none }
def FrameNumbersWrongFalsely : Prop := frameNumbersRow.holds Try.pinned (OpenSpec.ofChange frameNumbersWrong)

/-- 'convoylaw01.FrameSums': WHATEVER THE INPUT: true; the input reads as it did. -/
def frameSumsSpec : ChangeSpec := { name := "frameSums", fn := fun _ => fun
  | [d] => { results := [.lit (.bool true)], args := [d] }
  | _ => none }
def frameSumsRow : OpenClaim := { program := "ytcdaioljddaopaa", sum := "06950b824bcea3d1e86f6f98e6f9ab8ddabcce6ef118e6e414ae636f690655f5", func := "convoy/convoylaw01.FrameSums", spec := "frameSums", apart := false }
def FrameSumsSaid : Prop := frameSumsRow.holds Try.pinned (OpenSpec.ofChange frameSumsSpec)

/-- ITS FALSE NEIGHBOUR: 'it returns false'. Refute it at one input. -/
def frameSumsWrong : ChangeSpec := { name := "frameSums", fn := fun _ => fun
  | [d] => { results := [.lit (.bool false)], args := [d] }
  | _ => none }
def FrameSumsWrongFalsely : Prop := frameSumsRow.holds Try.pinned (OpenSpec.ofChange frameSumsWrong)

/-- 'convoylaw01.FrameTexts': WHATEVER THE INPUT: true; the input reads as it did. -/
def frameTextsSpec : ChangeSpec := { name := "frameTexts", fn := fun _ => fun
  | [d1, d2] => { results := [.lit (.bool true)], args := [d1, d2] }
  | _ => none }
def frameTextsRow : OpenClaim := { program := "ytcdaioljddaopaa", sum := "06950b824bcea3d1e86f6f98e6f9ab8ddabcce6ef118e6e414ae636f690655f5", func := "convoy/convoylaw01.FrameTexts", spec := "frameTexts", apart := false }
def FrameTextsSaid : Prop := frameTextsRow.holds Try.pinned (OpenSpec.ofChange frameTextsSpec)

/-- ITS FALSE NEIGHBOUR: 'it returns false'. Refute it at one input. -/
def frameTextsWrong : ChangeSpec := { name := "frameTexts", fn := fun _ => fun
  | [d1, d2] => { results := [.lit (.bool false)], args := [d1, d2] }
  | _ => none }
def FrameTextsWrongFalsely : Prop := frameTextsRow.holds Try.pinned (OpenSpec.ofChange frameTextsWrong)

/-- 'convoylaw01.FrameSeals': WHATEVER THE INPUT: true; the input reads as it did. -/
def frameSealsSpec : ChangeSpec := { name := "frameSeals", fn := fun _ => fun
  | [d1, d2] => { results := [.lit (.bool true)], args := [d1, d2] }
  | _ => none }
def frameSealsRow : OpenClaim := { program := "ytcdaioljddaopaa", sum := "06950b824bcea3d1e86f6f98e6f9ab8ddabcce6ef118e6e414ae636f690655f5", func := "convoy/convoylaw01.FrameSeals", spec := "frameSeals", apart := false }
def FrameSealsSaid : Prop := frameSealsRow.holds Try.pinned (OpenSpec.ofChange frameSealsSpec)

/-- ITS FALSE NEIGHBOUR: 'it returns false'. Refute it at one input. -/
def frameSealsWrong : ChangeSpec := { name := "frameSeals", fn := fun _ => fun
  | [d1, d2] => { results := [.lit (.bool false)], args := [d1, d2] }
  | _ => none }
def FrameSealsWrongFalsely : Prop := frameSealsRow.holds Try.pinned (OpenSpec.ofChange frameSealsWrong)

/-- 'convoylaw01.FrameBursts': WHATEVER THE INPUT: true; the input reads as it did. -/
def frameBurstsSpec : ChangeSpec := { name := "frameBursts", fn := fun _ => fun
  | [d1, d2, d3] => { results := [.lit (.bool true)], args := [d1, d2, d3] }
  | _ => none }
def frameBurstsRow : OpenClaim := { program := "ytcdaioljddaopaa", sum := "06950b824bcea3d1e86f6f98e6f9ab8ddabcce6ef118e6e414ae636f690655f5", func := "convoy/convoylaw01.FrameBursts", spec := "frameBursts", apart := false }
def FrameBurstsSaid : Prop := frameBurstsRow.holds Try.pinned (OpenSpec.ofChange frameBurstsSpec)

/-- ITS FALSE NEIGHBOUR: 'it returns false'. Refute it at one input. -/
def frameBurstsWrong : ChangeSpec := { name := "frameBursts", fn := fun _ => fun
  | [d1, d2, d3] => { results := [.lit (.bool false)], args := [d1, d2, d3] }
  | _ => none }
def FrameBurstsWrongFalsely : Prop := frameBurstsRow.holds Try.pinned (OpenSpec.ofChange frameBurstsWrong)

/-- 'convoylaw01.FrameTakes': WHATEVER THE INPUT: true; the input reads as it did. -/
def frameTakesSpec : ChangeSpec := { name := "frameTakes", fn := fun _ => fun
  | [d] => { results := [.lit (.bool true)], args := [d] }
  | _ => none }
def frameTakesRow : OpenClaim := { program := "ytcdaioljddaopaa", sum := "06950b824bcea3d1e86f6f98e6f9ab8ddabcce6ef118e6e414ae636f690655f5", func := "convoy/convoylaw01.FrameTakes", spec := "frameTakes", apart := false }
def FrameTakesSaid : Prop := frameTakesRow.holds Try.pinned (OpenSpec.ofChange frameTakesSpec)

/-- ITS FALSE NEIGHBOUR: 'it returns false'. Refute it at one input. -/
def frameTakesWrong : ChangeSpec := { name := "frameTakes", fn := fun _ => fun
  | [d] => { results := [.lit (.bool false)], args := [d] }
  | _ => none }
def FrameTakesWrongFalsely : Prop := frameTakesRow.holds Try.pinned (OpenSpec.ofChange frameTakesWrong)

/-- 'convoylaw01.FrameTorn': WHATEVER THE INPUT: true; the input reads as it did. -/
def frameTornSpec : ChangeSpec := { name := "frameTorn", fn := fun _ => fun
  | [d1, d2] => { results := [.lit (.bool true)], args := [d1, d2] }
  | _ => none }
def frameTornRow : OpenClaim := { program := "ytcdaioljddaopaa", sum := "06950b824bcea3d1e86f6f98e6f9ab8ddabcce6ef118e6e414ae636f690655f5", func := "convoy/convoylaw01.FrameTorn", spec := "frameTorn", apart := false }
def FrameTornSaid : Prop := frameTornRow.holds Try.pinned (OpenSpec.ofChange frameTornSpec)

/-- ITS FALSE NEIGHBOUR: 'it returns false'. Refute it at one input. -/
def frameTornWrong : ChangeSpec := { name := "frameTorn", fn := fun _ => fun
  | [d1, d2] => { results := [.lit (.bool false)], args := [d1, d2] }
  | _ => none }
def FrameTornWrongFalsely : Prop := frameTornRow.holds Try.pinned (OpenSpec.ofChange frameTornWrong)

/-- 'convoylaw01.FrameOwn': WHATEVER THE INPUT: true; the input reads as it did. -/
def frameOwnSpec : ChangeSpec := { name := "frameOwn", fn := fun _ => fun
  | [d1, d2] => { results := [.lit (.bool true)], args := [d1, d2] }
  | _ => none }
def frameOwnRow : OpenClaim := { program := "ytcdaioljddaopaa", sum := "06950b824bcea3d1e86f6f98e6f9ab8ddabcce6ef118e6e414ae636f690655f5", func := "convoy/convoylaw01.FrameOwn", spec := "frameOwn", apart := false }
def FrameOwnSaid : Prop := frameOwnRow.holds Try.pinned (OpenSpec.ofChange frameOwnSpec)

/-- ITS FALSE NEIGHBOUR: 'it returns false'. Refute it at one input. -/
def frameOwnWrong : ChangeSpec := { name := "frameOwn", fn := fun _ => fun
  | [d1, d2] => { results := [.lit (.bool false)], args := [d1, d2] }
  | _ => none }
def FrameOwnWrongFalsely : Prop := frameOwnRow.holds Try.pinned (OpenSpec.ofChange frameOwnWrong)

/- THE SECOND FORM. 'bulk': how many values and letters a reading holds, each counted each time it is reached (what is shared counts as often as it is met; a slice's spare places count too). A statement '..UptoSaid' is the law's where the arguments, and the package variables that the reading takes, are together of bulk at most 1048576: NARROWER than '..Said'. Prove '..Said' where nothing that the law and all that it calls make is longer than what came in: it says more and counts as full. Else prove '..UptoSaid'. A law counts once. -/
mutual
def uptoBulk {H : Type} : DataW H → Nat
  | .lit (.string bytes) => bytes.length + 1
  | .lit _ => 1
  | .nil => 1
  | .ptr d => uptoBulk d + 1
  | .slice elems spare => uptoBulkAll elems + uptoBulkAll spare + 1
  | .agg parts => uptoBulkAll parts + 1
  | .iface _ d => uptoBulk d + 1
  | .map entries => uptoBulkEntries entries + 1
  | .held _ => 1
def uptoBulkAll {H : Type} : List (DataW H) → Nat
  | [] => 0
  | d :: r => uptoBulk d + uptoBulkAll r
def uptoBulkEntries {H : Type} : List (Lit × DataW H) → Nat
  | [] => 0
  | x :: r => uptoBulkEntry x + uptoBulkEntries r
def uptoBulkEntry {H : Type} : Lit × DataW H → Nat
  | (.string bytes, d) => bytes.length + uptoBulk d + 1
  | (_, d) => uptoBulk d + 1
 end
def uptoSmall : (H : Type) → List (DataW H) → Bool := fun _ ds => decide (uptoBulkAll ds ≤ 1048576)
def OpenSpec.upto (s : _root_.Go.ChangeSpec) : _root_.Go.OpenSpec := { _root_.Go.OpenSpec.ofChange s with cond := some uptoSmall }

/-- 'convoylaw01.FrameNumbers', WHERE WHAT IT READS IS OF BULK AT MOST 1048576: true; the input reads as it did. -/
def frameNumbersUptoRow : OpenClaim := { program := "ytcdaioljddaopaa", sum := "06950b824bcea3d1e86f6f98e6f9ab8ddabcce6ef118e6e414ae636f690655f5", func := "convoy/convoylaw01.FrameNumbers", spec := "frameNumbers", apart := false, narrowed := true }
def FrameNumbersUptoSaid : Prop := frameNumbersUptoRow.holds Try.pinned (OpenSpec.upto frameNumbersSpec)

/-- 'convoylaw01.FrameSums', WHERE WHAT IT READS IS OF BULK AT MOST 1048576: true; the input reads as it did. -/
def frameSumsUptoRow : OpenClaim := { program := "ytcdaioljddaopaa", sum := "06950b824bcea3d1e86f6f98e6f9ab8ddabcce6ef118e6e414ae636f690655f5", func := "convoy/convoylaw01.FrameSums", spec := "frameSums", apart := false, narrowed := true }
def FrameSumsUptoSaid : Prop := frameSumsUptoRow.holds Try.pinned (OpenSpec.upto frameSumsSpec)

/-- 'convoylaw01.FrameTexts', WHERE WHAT IT READS IS OF BULK AT MOST 1048576: true; the input reads as it did. -/
def frameTextsUptoRow : OpenClaim := { program := "ytcdaioljddaopaa", sum := "06950b824bcea3d1e86f6f98e6f9ab8ddabcce6ef118e6e414ae636f690655f5", func := "convoy/convoylaw01.FrameTexts", spec := "frameTexts", apart := false, narrowed := true }
def FrameTextsUptoSaid : Prop := frameTextsUptoRow.holds Try.pinned (OpenSpec.upto frameTextsSpec)

/-- 'convoylaw01.FrameSeals', WHERE WHAT IT READS IS OF BULK AT MOST 1048576: true; the input reads as it did. -/
def frameSealsUptoRow : OpenClaim := { program := "ytcdaioljddaopaa", sum := "06950b824bcea3d1e86f6f98e6f9ab8ddabcce6ef118e6e414ae636f690655f5", func := "convoy/convoylaw01.FrameSeals", spec := "frameSeals", apart := false, narrowed := true }
def FrameSealsUptoSaid : Prop := frameSealsUptoRow.holds Try.pinned (OpenSpec.upto frameSealsSpec)

/-- 'convoylaw01.FrameBursts', WHERE WHAT IT READS IS OF BULK AT MOST 1048576: true; the input reads as it did. -/
def frameBurstsUptoRow : OpenClaim := { program := "ytcdaioljddaopaa", sum := "06950b824bcea3d1e86f6f98e6f9ab8ddabcce6ef118e6e414ae636f690655f5", func := "convoy/convoylaw01.FrameBursts", spec := "frameBursts", apart := false, narrowed := true }
def FrameBurstsUptoSaid : Prop := frameBurstsUptoRow.holds Try.pinned (OpenSpec.upto frameBurstsSpec)

/-- 'convoylaw01.FrameTakes', WHERE WHAT IT READS IS OF BULK AT MOST 1048576: true; the input reads as it did. -/
def frameTakesUptoRow : OpenClaim := { program := "ytcdaioljddaopaa", sum := "06950b824bcea3d1e86f6f98e6f9ab8ddabcce6ef118e6e414ae636f690655f5", func := "convoy/convoylaw01.FrameTakes", spec := "frameTakes", apart := false, narrowed := true }
def FrameTakesUptoSaid : Prop := frameTakesUptoRow.holds Try.pinned (OpenSpec.upto frameTakesSpec)

/-- 'convoylaw01.FrameTorn', WHERE WHAT IT READS IS OF BULK AT MOST 1048576: true; the input reads as it did. -/
def frameTornUptoRow : OpenClaim := { program := "ytcdaioljddaopaa", sum := "06950b824bcea3d1e86f6f98e6f9ab8ddabcce6ef118e6e414ae636f690655f5", func := "convoy/convoylaw01.FrameTorn", spec := "frameTorn", apart := false, narrowed := true }
def FrameTornUptoSaid : Prop := frameTornUptoRow.holds Try.pinned (OpenSpec.upto frameTornSpec)

/-- 'convoylaw01.FrameOwn', WHERE WHAT IT READS IS OF BULK AT MOST 1048576: true; the input reads as it did. -/
def frameOwnUptoRow : OpenClaim := { program := "ytcdaioljddaopaa", sum := "06950b824bcea3d1e86f6f98e6f9ab8ddabcce6ef118e6e414ae636f690655f5", func := "convoy/convoylaw01.FrameOwn", spec := "frameOwn", apart := false, narrowed := true }
def FrameOwnUptoSaid : Prop := frameOwnUptoRow.holds Try.pinned (OpenSpec.upto frameOwnSpec)

end Rows
end Go.Proofs.Ytcdaioljddaopaa
