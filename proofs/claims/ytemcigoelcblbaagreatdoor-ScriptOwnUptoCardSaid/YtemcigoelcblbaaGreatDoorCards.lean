/-
  DERIVED. GIVEN WITH THE SEED: THE CARDS: each row of YtemcigoelcblbaaGreatDoorRows.lean that lists a variable, with what it lists TIED to the program's text (the seventh form; the later family's looks); each row that meets fmt, with fmt's text TOLD by the authors' own Lean function (tested against real Go, not proved from fmt's source: count such statements apart). THE CARD IS WHAT COUNTS. Prove the row's statement (the work); the ties are given (YtemcigoelcblbaaGreatDoorTie.lean); close each card by the builder's one call (the guide's Derived/Test/ToyasCard.lean, 'card_holds'). Laid BY PROGRAM, IN A SANDBOX (cutbox-door.mjs). By AI agents, Wed Nov 11 2026. No macro, syntax, notation, axiom, sorry.
-/
import Derived.Test.YtemcigoelcblbaaGreatDoorRows
import GoSem.ClaimSeven
namespace Go.Proofs.YtemcigoelcblbaaGreatDoor
namespace Rows

/-- THE TIED CARD OF 'convoylaw24.ScriptParses'. -/
def scriptParsesCard : Claim7 := { stood := { row := scriptParsesRow, standIns := [], harness := (true, "1200638073053ddcbcabcb2db6666df4cb9ae61b0454daec81792443ee0fb527"), looks := true }, kinds := [], alts := [], laidByText := true, laidKinds := [.data, .data, .data, .data, .sentinel, .sentinel, .pinned], laidTests := true, laidLooks := .later }
def ScriptParsesCardSaid : Prop := Claim7.holds Tryz.pinned (.plain (OpenSpec.ofChange scriptParsesSpec)) scriptParsesCard

/-- THE TIED CARD OF 'convoylaw24.ScriptOwn'. -/
def scriptOwnCard : Claim7 := { stood := { row := scriptOwnRow, standIns := [], harness := (true, "1200638073053ddcbcabcb2db6666df4cb9ae61b0454daec81792443ee0fb527"), looks := true }, kinds := [], alts := [], laidByText := true, laidKinds := [.data, .data, .data, .data, .sentinel, .sentinel, .pinned], laidTests := true, laidLooks := .later }
def ScriptOwnCardSaid : Prop := Claim7.holds Tryz.pinned (.plain (OpenSpec.ofChange scriptOwnSpec)) scriptOwnCard

/-- THE SECOND FORM's CARD OF 'convoylaw24.ScriptParses'. -/
def scriptParsesUptoCard : Claim7 := { stood := { row := scriptParsesUptoRow, standIns := [], harness := (true, "1200638073053ddcbcabcb2db6666df4cb9ae61b0454daec81792443ee0fb527"), looks := true }, kinds := [], alts := [], laidByText := true, laidKinds := [.data, .data, .data, .data, .sentinel, .sentinel, .pinned], laidTests := true, laidLooks := .later }
def ScriptParsesUptoCardSaid : Prop := Claim7.holds Tryz.pinned (.plain (OpenSpec.upto scriptParsesSpec)) scriptParsesUptoCard

/-- THE SECOND FORM's CARD OF 'convoylaw24.ScriptOwn'. -/
def scriptOwnUptoCard : Claim7 := { stood := { row := scriptOwnUptoRow, standIns := [], harness := (true, "1200638073053ddcbcabcb2db6666df4cb9ae61b0454daec81792443ee0fb527"), looks := true }, kinds := [], alts := [], laidByText := true, laidKinds := [.data, .data, .data, .data, .sentinel, .sentinel, .pinned], laidTests := true, laidLooks := .later }
def ScriptOwnUptoCardSaid : Prop := Claim7.holds Tryz.pinned (.plain (OpenSpec.upto scriptOwnSpec)) scriptOwnUptoCard
end Rows
end Go.Proofs.YtemcigoelcblbaaGreatDoor
