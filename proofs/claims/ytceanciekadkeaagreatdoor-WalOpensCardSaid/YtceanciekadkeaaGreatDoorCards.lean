/-
  DERIVED. GIVEN WITH THE SEED: THE CARDS: each row of YtceanciekadkeaaGreatDoorRows.lean that lists a variable, with what it lists TIED to the program's text (the seventh form; the later family's looks); each row that meets fmt, with fmt's text TOLD by the authors' own Lean function (tested against real Go, not proved from fmt's source: count such statements apart). THE CARD IS WHAT COUNTS. Prove the row's statement (the work); the ties are given (YtceanciekadkeaaGreatDoorTie.lean); close each card by the builder's one call (the guide's Derived/Test/ToyasCard.lean, 'card_holds'). Laid BY PROGRAM, IN A SANDBOX (cutbox-door.mjs). By AI agents, Wed Nov 11 2026. No macro, syntax, notation, axiom, sorry.
-/
import Derived.Test.YtceanciekadkeaaGreatDoorRows
import GoSem.ClaimSeven
namespace Go.Proofs.YtceanciekadkeaaGreatDoor
namespace Rows

/-- THE TIED CARD OF 'convoylaw03.WalOwn'. -/
def walOwnCard : Claim7 := { stood := { row := walOwnRow, standIns := [], harness := (true, "2892b9ac3051e6c3434a1954ce199cf4e2ed648c383277ecd3b377b4b38a9158"), looks := true }, kinds := [], alts := [], laidByText := true, laidKinds := [.data, .data, .data, .sentinel, .sentinel], laidTests := true, laidLooks := .later }
def WalOwnCardSaid : Prop := Claim7.holds Tryz.pinned (.plain (OpenSpec.ofChange walOwnSpec)) walOwnCard

/-- THE TIED CARD OF 'convoylaw03.WalOpens'. -/
def walOpensCard : Claim7 := { stood := { row := walOpensRow, standIns := [], harness := (true, "2892b9ac3051e6c3434a1954ce199cf4e2ed648c383277ecd3b377b4b38a9158"), looks := true }, kinds := [], alts := [], laidByText := true, laidKinds := [.data, .data, .data, .sentinel, .sentinel], laidTests := true, laidLooks := .later }
def WalOpensCardSaid : Prop := Claim7.holds Tryz.pinned (.plain (OpenSpec.ofChange walOpensSpec)) walOpensCard

/-- THE TIED CARD OF 'convoylaw03.WalDrops'. -/
def walDropsCard : Claim7 := { stood := { row := walDropsRow, standIns := [], harness := (true, "2892b9ac3051e6c3434a1954ce199cf4e2ed648c383277ecd3b377b4b38a9158"), looks := true }, kinds := [], alts := [], laidByText := true, laidKinds := [.data, .data, .data, .sentinel, .sentinel], laidTests := true, laidLooks := .later }
def WalDropsCardSaid : Prop := Claim7.holds Tryz.pinned (.plain (OpenSpec.ofChange walDropsSpec)) walDropsCard

/-- THE TIED CARD OF 'convoylaw03.WalCrashes'. -/
def walCrashesCard : Claim7 := { stood := { row := walCrashesRow, standIns := [], harness := (true, "2892b9ac3051e6c3434a1954ce199cf4e2ed648c383277ecd3b377b4b38a9158"), looks := true }, kinds := [], alts := [], laidByText := true, laidKinds := [.data, .data, .data, .sentinel, .sentinel], laidTests := true, laidLooks := .later }
def WalCrashesCardSaid : Prop := Claim7.holds Tryz.pinned (.plain (OpenSpec.ofChange walCrashesSpec)) walCrashesCard

/-- THE SECOND FORM's CARD OF 'convoylaw03.WalOwn'. -/
def walOwnUptoCard : Claim7 := { stood := { row := walOwnUptoRow, standIns := [], harness := (true, "2892b9ac3051e6c3434a1954ce199cf4e2ed648c383277ecd3b377b4b38a9158"), looks := true }, kinds := [], alts := [], laidByText := true, laidKinds := [.data, .data, .data, .sentinel, .sentinel], laidTests := true, laidLooks := .later }
def WalOwnUptoCardSaid : Prop := Claim7.holds Tryz.pinned (.plain (OpenSpec.upto walOwnSpec)) walOwnUptoCard

/-- THE SECOND FORM's CARD OF 'convoylaw03.WalOpens'. -/
def walOpensUptoCard : Claim7 := { stood := { row := walOpensUptoRow, standIns := [], harness := (true, "2892b9ac3051e6c3434a1954ce199cf4e2ed648c383277ecd3b377b4b38a9158"), looks := true }, kinds := [], alts := [], laidByText := true, laidKinds := [.data, .data, .data, .sentinel, .sentinel], laidTests := true, laidLooks := .later }
def WalOpensUptoCardSaid : Prop := Claim7.holds Tryz.pinned (.plain (OpenSpec.upto walOpensSpec)) walOpensUptoCard

/-- THE SECOND FORM's CARD OF 'convoylaw03.WalDrops'. -/
def walDropsUptoCard : Claim7 := { stood := { row := walDropsUptoRow, standIns := [], harness := (true, "2892b9ac3051e6c3434a1954ce199cf4e2ed648c383277ecd3b377b4b38a9158"), looks := true }, kinds := [], alts := [], laidByText := true, laidKinds := [.data, .data, .data, .sentinel, .sentinel], laidTests := true, laidLooks := .later }
def WalDropsUptoCardSaid : Prop := Claim7.holds Tryz.pinned (.plain (OpenSpec.upto walDropsSpec)) walDropsUptoCard

/-- THE SECOND FORM's CARD OF 'convoylaw03.WalCrashes'. -/
def walCrashesUptoCard : Claim7 := { stood := { row := walCrashesUptoRow, standIns := [], harness := (true, "2892b9ac3051e6c3434a1954ce199cf4e2ed648c383277ecd3b377b4b38a9158"), looks := true }, kinds := [], alts := [], laidByText := true, laidKinds := [.data, .data, .data, .sentinel, .sentinel], laidTests := true, laidLooks := .later }
def WalCrashesUptoCardSaid : Prop := Claim7.holds Tryz.pinned (.plain (OpenSpec.upto walCrashesSpec)) walCrashesUptoCard
end Rows
end Go.Proofs.YtceanciekadkeaaGreatDoor
