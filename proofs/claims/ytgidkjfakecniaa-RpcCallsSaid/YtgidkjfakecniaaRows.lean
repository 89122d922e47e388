/-
  No cell of these rows narrows 'for every input' (looked for: loops, veiled, ifaces, maps, wideKeys, modest, calm, conditions, laid).
  DERIVED. THE GIVEN ROWS OF THIS SEAT. 5 by the template 'for every input the law returns true; each argument reads behind the call as it read before'; 0 by the template 'total and deterministic' (their statements: YtgidkjfakecniaaTotals.lean).
  GIVEN WITH THE SEED: the statements are not yours to turn. If you find one false, say at which input.
  Laid BY PROGRAM, IN A SANDBOX (cutbox-rows.mjs): the forced cells as the released guide's own fill.sh prints them over the translation a0c8516d0e34c5e7… (all of the seat's roots in one cut). By AI agents, Wed Nov 11 2026. No macro, syntax, notation, axiom, sorry.
-/
import Derived.Test.YtgidkjfakecniaaChecked
import GoSem.Claim
import GoSem.ClaimJoined
import GoSem.ClaimMapViews
import Derived.JoinedTies
import Derived.KernelRfl
namespace Go.Proofs.Ytgidkjfakecniaa
/- THE CELL 'sum', in the pinned program and in every row, IS THE sha256 OF THE DUMP (.gsa) THAT YtgidkjfakecniaaProg.lean LOADS. Nothing in Lean hashes anything: it is a label: what it is worth is what the hold of that sum in a sandbox is worth. -/
noncomputable def Try.pinned : Pinned := { name := "ytgidkjfakecniaa", sum := "a0c8516d0e34c5e7e7ad81e176bb52daa3c82cd4eb463ec0a20f71e0d6f23df1", checked := Try.checked }
namespace Rows
def none {H : Type} : Left H := { results := [], args := [] }

/-- 'convoylaw11.RpcEnds': WHATEVER THE INPUT: true; the input reads as it did. -/
def rpcEndsSpec : ChangeSpec := { name := "rpcEnds", fn := fun _ => fun
  | [d1, d2] => { results := [.lit (.bool true)], args := [d1, d2] }
  | _ => none }
def rpcEndsRow : OpenClaim := { program := "ytgidkjfakecniaa", sum := "a0c8516d0e34c5e7e7ad81e176bb52daa3c82cd4eb463ec0a20f71e0d6f23df1", func := "convoy/convoylaw11.RpcEnds", spec := "rpcEnds", apart := false }
def RpcEndsSaid : Prop := rpcEndsRow.holds Try.pinned (OpenSpec.ofChange rpcEndsSpec)

/-- ITS FALSE NEIGHBOUR: 'it returns false'. Refute it at one input. -/
def rpcEndsWrong : ChangeSpec := { name := "rpcEnds", fn := fun _ => fun
  | [d1, d2] => { results := [.lit (.bool false)], args := [d1, d2] }
  | _ => none }
def RpcEndsWrongFalsely : Prop := rpcEndsRow.holds Try.pinned (OpenSpec.ofChange rpcEndsWrong)

/-- 'convoylaw11.RpcCalls': WHATEVER THE INPUT: true; the input reads as it did. -/
def rpcCallsSpec : ChangeSpec := { name := "rpcCalls", fn := fun _ => fun
  | [d1, d2] => { results := [.lit (.bool true)], args := [d1, d2] }
  | _ => none }
def rpcCallsRow : OpenClaim := { program := "ytgidkjfakecniaa", sum := "a0c8516d0e34c5e7e7ad81e176bb52daa3c82cd4eb463ec0a20f71e0d6f23df1", func := "convoy/convoylaw11.RpcCalls", spec := "rpcCalls", apart := false }
def RpcCallsSaid : Prop := rpcCallsRow.holds Try.pinned (OpenSpec.ofChange rpcCallsSpec)

/-- ITS FALSE NEIGHBOUR: 'it returns false'. Refute it at one input. -/
def rpcCallsWrong : ChangeSpec := { name := "rpcCalls", fn := fun _ => fun
  | [d1, d2] => { results := [.lit (.bool false)], args := [d1, d2] }
  | _ => none }
def RpcCallsWrongFalsely : Prop := rpcCallsRow.holds Try.pinned (OpenSpec.ofChange rpcCallsWrong)

/-- 'convoylaw11.RpcOwn': WHATEVER THE INPUT: true; the input reads as it did. -/
def rpcOwnSpec : ChangeSpec := { name := "rpcOwn", fn := fun _ => fun
  | [d1, d2] => { results := [.lit (.bool true)], args := [d1, d2] }
  | _ => none }
def rpcOwnRow : OpenClaim := { program := "ytgidkjfakecniaa", sum := "a0c8516d0e34c5e7e7ad81e176bb52daa3c82cd4eb463ec0a20f71e0d6f23df1", func := "convoy/convoylaw11.RpcOwn", spec := "rpcOwn", apart := false }
def RpcOwnSaid : Prop := rpcOwnRow.holds Try.pinned (OpenSpec.ofChange rpcOwnSpec)

/-- ITS FALSE NEIGHBOUR: 'it returns false'. Refute it at one input. -/
def rpcOwnWrong : ChangeSpec := { name := "rpcOwn", fn := fun _ => fun
  | [d1, d2] => { results := [.lit (.bool false)], args := [d1, d2] }
  | _ => none }
def RpcOwnWrongFalsely : Prop := rpcOwnRow.holds Try.pinned (OpenSpec.ofChange rpcOwnWrong)

/-- 'convoylaw11.RpcWindows': WHATEVER THE INPUT: true; the input reads as it did. -/
def rpcWindowsSpec : ChangeSpec := { name := "rpcWindows", fn := fun _ => fun
  | [d] => { results := [.lit (.bool true)], args := [d] }
  | _ => none }
def rpcWindowsRow : OpenClaim := { program := "ytgidkjfakecniaa", sum := "a0c8516d0e34c5e7e7ad81e176bb52daa3c82cd4eb463ec0a20f71e0d6f23df1", func := "convoy/convoylaw11.RpcWindows", spec := "rpcWindows", apart := false }
def RpcWindowsSaid : Prop := rpcWindowsRow.holds Try.pinned (OpenSpec.ofChange rpcWindowsSpec)

/-- ITS FALSE NEIGHBOUR: 'it returns false'. Refute it at one input. -/
def rpcWindowsWrong : ChangeSpec := { name := "rpcWindows", fn := fun _ => fun
  | [d] => { results := [.lit (.bool false)], args := [d] }
  | _ => none }
def RpcWindowsWrongFalsely : Prop := rpcWindowsRow.holds Try.pinned (OpenSpec.ofChange rpcWindowsWrong)

/-- 'convoylaw11.RpcOnce': WHATEVER THE INPUT: true; the input reads as it did. -/
def rpcOnceSpec : ChangeSpec := { name := "rpcOnce", fn := fun _ => fun
  | [d1, d2] => { results := [.lit (.bool true)], args := [d1, d2] }
  | _ => none }
def rpcOnceRow : OpenClaim := { program := "ytgidkjfakecniaa", sum := "a0c8516d0e34c5e7e7ad81e176bb52daa3c82cd4eb463ec0a20f71e0d6f23df1", func := "convoy/convoylaw11.RpcOnce", spec := "rpcOnce", apart := false }
def RpcOnceSaid : Prop := rpcOnceRow.holds Try.pinned (OpenSpec.ofChange rpcOnceSpec)

/-- ITS FALSE NEIGHBOUR: 'it returns false'. Refute it at one input. -/
def rpcOnceWrong : ChangeSpec := { name := "rpcOnce", fn := fun _ => fun
  | [d1, d2] => { results := [.lit (.bool false)], args := [d1, d2] }
  | _ => none }
def RpcOnceWrongFalsely : Prop := rpcOnceRow.holds Try.pinned (OpenSpec.ofChange rpcOnceWrong)

/- THE SECOND FORM. 'bulk': how many values and letters a reading holds, each counted each time it is reached (what is shared counts as often as it is met; a slice's spare places count too). A statement '..UptoSaid' is the law's where the arguments, and the package variables that the reading takes, are together of bulk at most 1048576: NARROWER than '..Said'. Prove '..Said' where nothing that the law and all that it calls make is longer than what came in: it says more and counts as full. Else prove '..UptoSaid'. A law counts once. -/
mutual
def uptoBulk {H : Type} : DataW H → Nat
  | .lit (.string bytes) => bytes.length + 1
  | .lit _ => 1
  | .nil => 1
  | .ptr d => uptoBulk d + 1
  | .slice elems spare => uptoBulkAll elems + uptoBulkAll spare + 1
  | .agg parts => uptoBulkAll parts + 1
  | .iface _ d => uptoBulk d + 1
  | .map entries => uptoBulkEntries entries + 1
  | .held _ => 1
def uptoBulkAll {H : Type} : List (DataW H) → Nat
  | [] => 0
  | d :: r => uptoBulk d + uptoBulkAll r
def uptoBulkEntries {H : Type} : List (Lit × DataW H) → Nat
  | [] => 0
  | x :: r => uptoBulkEntry x + uptoBulkEntries r
def uptoBulkEntry {H : Type} : Lit × DataW H → Nat
  | (.string bytes, d) => bytes.length + uptoBulk d + 1
  | (_, d) => uptoBulk d + 1
 end
def uptoSmall : (H : Type) → List (DataW H) → Bool := fun _ ds => decide (uptoBulkAll ds ≤ 1048576)
def OpenSpec.upto (s : _root_.Go.ChangeSpec) : _root_.Go.OpenSpec := { _root_.Go.OpenSpec.ofChange s with cond := some uptoSmall }

/-- 'convoylaw11.RpcEnds', WHERE WHAT IT READS IS OF BULK AT MOST 1048576: true; the input reads as it did. -/
def rpcEndsUptoRow : OpenClaim := { program := "ytgidkjfakecniaa", sum := "a0c8516d0e34c5e7e7ad81e176bb52daa3c82cd4eb463ec0a20f71e0d6f23df1", func := "convoy/convoylaw11.RpcEnds", spec := "rpcEnds", apart := false, narrowed := true }
def RpcEndsUptoSaid : Prop := rpcEndsUptoRow.holds Try.pinned (OpenSpec.upto rpcEndsSpec)

/-- 'convoylaw11.RpcCalls', WHERE WHAT IT READS IS OF BULK AT MOST 1048576: true; the input reads as it did. -/
def rpcCallsUptoRow : OpenClaim := { program := "ytgidkjfakecniaa", sum := "a0c8516d0e34c5e7e7ad81e176bb52daa3c82cd4eb463ec0a20f71e0d6f23df1", func := "convoy/convoylaw11.RpcCalls", spec := "rpcCalls", apart := false, narrowed := true }
def RpcCallsUptoSaid : Prop := rpcCallsUptoRow.holds Try.pinned (OpenSpec.upto rpcCallsSpec)

/-- 'convoylaw11.RpcOwn', WHERE WHAT IT READS IS OF BULK AT MOST 1048576: true; the input reads as it did. -/
def rpcOwnUptoRow : OpenClaim := { program := "ytgidkjfakecniaa", sum := "a0c8516d0e34c5e7e7ad81e176bb52daa3c82cd4eb463ec0a20f71e0d6f23df1", func := "convoy/convoylaw11.RpcOwn", spec := "rpcOwn", apart := false, narrowed := true }
def RpcOwnUptoSaid : Prop := rpcOwnUptoRow.holds Try.pinned (OpenSpec.upto rpcOwnSpec)

/-- 'convoylaw11.RpcWindows', WHERE WHAT IT READS IS OF BULK AT MOST 1048576: true; the input reads as it did. -/
def rpcWindowsUptoRow : OpenClaim := { program := "ytgidkjfakecniaa", sum := "a0c8516d0e34c5e7e7ad81e176bb52daa3c82cd4eb463ec0a20f71e0d6f23df1", func := "convoy/convoylaw11.RpcWindows", spec := "rpcWindows", apart := false, narrowed := true }
def RpcWindowsUptoSaid : Prop := rpcWindowsUptoRow.holds Try.pinned (OpenSpec.upto rpcWindowsSpec)

/-- 'convoylaw11.RpcOnce', WHERE WHAT IT READS IS OF BULK AT MOST 1048576: true; the input reads as it did. -/
def rpcOnceUptoRow : OpenClaim := { program := "ytgidkjfakecniaa", sum := "a0c8516d0e34c5e7e7ad81e176bb52daa3c82cd4eb463ec0a20f71e0d6f23df1", func := "convoy/convoylaw11.RpcOnce", spec := "rpcOnce", apart := false, narrowed := true }
def RpcOnceUptoSaid : Prop := rpcOnceUptoRow.holds Try.pinned (OpenSpec.upto rpcOnceSpec)

end Rows
end Go.Proofs.Ytgidkjfakecniaa
