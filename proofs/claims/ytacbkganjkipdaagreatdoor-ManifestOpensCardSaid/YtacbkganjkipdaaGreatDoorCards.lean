/-
  DERIVED. GIVEN WITH THE SEED: THE CARDS: each row of YtacbkganjkipdaaGreatDoorRows.lean that lists a variable, with what it lists TIED to the program's text (the seventh form; the later family's looks); each row that meets fmt, with fmt's text TOLD by the authors' own Lean function (tested against real Go, not proved from fmt's source: count such statements apart). THE CARD IS WHAT COUNTS. Prove the row's statement (the work); the ties are given (YtacbkganjkipdaaGreatDoorTie.lean); close each card by the builder's one call (the guide's Derived/Test/ToyasCard.lean, 'card_holds'). Laid BY PROGRAM, IN A SANDBOX (cutbox-door.mjs). By AI agents, Wed Nov 11 2026. No macro, syntax, notation, axiom, sorry.
-/
import Derived.Test.YtacbkganjkipdaaGreatDoorRows
import GoSem.ClaimSeven
namespace Go.Proofs.YtacbkganjkipdaaGreatDoor
namespace Rows

/-- THE TIED CARD OF 'convoylaw08.ManifestFits'. -/
def manifestFitsCard : Claim7 := { stood := { row := manifestFitsRow, standIns := [], harness := (true, "66d6448a2a24736e851cd09f366e7697e058101977e108c55b2f43e963562b41"), looks := true }, kinds := [], alts := [], laidByText := true, laidKinds := [.data, .data, .data, .sentinel, .sentinel], laidTests := true, laidLooks := .later }
def ManifestFitsCardSaid : Prop := Claim7.holds Tryz.pinned (.plain (OpenSpec.ofChange manifestFitsSpec)) manifestFitsCard

/-- THE TIED CARD OF 'convoylaw08.ManifestOwn'. -/
def manifestOwnCard : Claim7 := { stood := { row := manifestOwnRow, standIns := [], harness := (true, "66d6448a2a24736e851cd09f366e7697e058101977e108c55b2f43e963562b41"), looks := true }, kinds := [], alts := [], laidByText := true, laidKinds := [.data, .data, .data, .sentinel, .sentinel], laidTests := true, laidLooks := .later }
def ManifestOwnCardSaid : Prop := Claim7.holds Tryz.pinned (.plain (OpenSpec.ofChange manifestOwnSpec)) manifestOwnCard

/-- THE TIED CARD OF 'convoylaw08.ManifestOpens'. -/
def manifestOpensCard : Claim7 := { stood := { row := manifestOpensRow, standIns := [], harness := (true, "66d6448a2a24736e851cd09f366e7697e058101977e108c55b2f43e963562b41"), looks := true }, kinds := [], alts := [], laidByText := true, laidKinds := [.data, .data, .data, .sentinel, .sentinel], laidTests := true, laidLooks := .later }
def ManifestOpensCardSaid : Prop := Claim7.holds Tryz.pinned (.plain (OpenSpec.ofChange manifestOpensSpec)) manifestOpensCard

/-- THE TIED CARD OF 'convoylaw08.ManifestPlays'. -/
def manifestPlaysCard : Claim7 := { stood := { row := manifestPlaysRow, standIns := [], harness := (true, "66d6448a2a24736e851cd09f366e7697e058101977e108c55b2f43e963562b41"), looks := true }, kinds := [], alts := [], laidByText := true, laidKinds := [.data, .data, .data, .sentinel, .sentinel], laidTests := true, laidLooks := .later }
def ManifestPlaysCardSaid : Prop := Claim7.holds Tryz.pinned (.plain (OpenSpec.ofChange manifestPlaysSpec)) manifestPlaysCard

/-- THE SECOND FORM's CARD OF 'convoylaw08.ManifestFits'. -/
def manifestFitsUptoCard : Claim7 := { stood := { row := manifestFitsUptoRow, standIns := [], harness := (true, "66d6448a2a24736e851cd09f366e7697e058101977e108c55b2f43e963562b41"), looks := true }, kinds := [], alts := [], laidByText := true, laidKinds := [.data, .data, .data, .sentinel, .sentinel], laidTests := true, laidLooks := .later }
def ManifestFitsUptoCardSaid : Prop := Claim7.holds Tryz.pinned (.plain (OpenSpec.upto manifestFitsSpec)) manifestFitsUptoCard

/-- THE SECOND FORM's CARD OF 'convoylaw08.ManifestOwn'. -/
def manifestOwnUptoCard : Claim7 := { stood := { row := manifestOwnUptoRow, standIns := [], harness := (true, "66d6448a2a24736e851cd09f366e7697e058101977e108c55b2f43e963562b41"), looks := true }, kinds := [], alts := [], laidByText := true, laidKinds := [.data, .data, .data, .sentinel, .sentinel], laidTests := true, laidLooks := .later }
def ManifestOwnUptoCardSaid : Prop := Claim7.holds Tryz.pinned (.plain (OpenSpec.upto manifestOwnSpec)) manifestOwnUptoCard

/-- THE SECOND FORM's CARD OF 'convoylaw08.ManifestOpens'. -/
def manifestOpensUptoCard : Claim7 := { stood := { row := manifestOpensUptoRow, standIns := [], harness := (true, "66d6448a2a24736e851cd09f366e7697e058101977e108c55b2f43e963562b41"), looks := true }, kinds := [], alts := [], laidByText := true, laidKinds := [.data, .data, .data, .sentinel, .sentinel], laidTests := true, laidLooks := .later }
def ManifestOpensUptoCardSaid : Prop := Claim7.holds Tryz.pinned (.plain (OpenSpec.upto manifestOpensSpec)) manifestOpensUptoCard

/-- THE SECOND FORM's CARD OF 'convoylaw08.ManifestPlays'. -/
def manifestPlaysUptoCard : Claim7 := { stood := { row := manifestPlaysUptoRow, standIns := [], harness := (true, "66d6448a2a24736e851cd09f366e7697e058101977e108c55b2f43e963562b41"), looks := true }, kinds := [], alts := [], laidByText := true, laidKinds := [.data, .data, .data, .sentinel, .sentinel], laidTests := true, laidLooks := .later }
def ManifestPlaysUptoCardSaid : Prop := Claim7.holds Tryz.pinned (.plain (OpenSpec.upto manifestPlaysSpec)) manifestPlaysUptoCard
end Rows
end Go.Proofs.YtacbkganjkipdaaGreatDoor
