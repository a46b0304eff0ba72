/-
  DERIVED. GIVEN WITH THE SEED: THE CARDS: each row of YthhmmaihbjhhgaaGreatDoorRows.lean that lists a variable, with what it lists TIED to the program's text (the seventh form; the later family's looks); each row that meets fmt, with fmt's text TOLD by the authors' own Lean function (tested against real Go, not proved from fmt's source: count such statements apart). THE CARD IS WHAT COUNTS. Prove the row's statement (the work); the ties are given (YthhmmaihbjhhgaaGreatDoorTie.lean); close each card by the builder's one call (the guide's Derived/Test/ToyasCard.lean, 'card_holds'). Laid BY PROGRAM, IN A SANDBOX (cutbox-door.mjs). By AI agents, Wed Nov 11 2026. No macro, syntax, notation, axiom, sorry.
-/
import Derived.Test.YthhmmaihbjhhgaaGreatDoorRows
import GoSem.ClaimSeven
namespace Go.Proofs.YthhmmaihbjhhgaaGreatDoor
namespace Rows

/-- THE TIED CARD OF 'cracknellaw08.JsonPrints'. -/
def jsonPrintsCard : Claim7 := { stood := { row := jsonPrintsRow, standIns := [], harness := (true, "af924fa517dbebd94df16b44882bc77858e2fa005954f5021103f9c44084cb80"), looks := true }, kinds := [], alts := [], laidByText := true, laidKinds := [.data, .data, .data, .data, .sentinel, .sentinel, .pinned], laidTests := true, laidLooks := .later }
def JsonPrintsCardSaid : Prop := Claim7.holds Tryz.pinned (.plain (OpenSpec.ofChange jsonPrintsSpec)) jsonPrintsCard

/-- THE TIED CARD OF 'cracknellaw08.JsonParses'. -/
def jsonParsesCard : Claim7 := { stood := { row := jsonParsesRow, standIns := [], harness := (true, "af924fa517dbebd94df16b44882bc77858e2fa005954f5021103f9c44084cb80"), looks := true }, kinds := [], alts := [], laidByText := true, laidKinds := [.data, .data, .data, .data, .sentinel, .sentinel, .pinned], laidTests := true, laidLooks := .later }
def JsonParsesCardSaid : Prop := Claim7.holds Tryz.pinned (.plain (OpenSpec.ofChange jsonParsesSpec)) jsonParsesCard

/-- THE SECOND FORM's CARD OF 'cracknellaw08.JsonPrints'. -/
def jsonPrintsUptoCard : Claim7 := { stood := { row := jsonPrintsUptoRow, standIns := [], harness := (true, "af924fa517dbebd94df16b44882bc77858e2fa005954f5021103f9c44084cb80"), looks := true }, kinds := [], alts := [], laidByText := true, laidKinds := [.data, .data, .data, .data, .sentinel, .sentinel, .pinned], laidTests := true, laidLooks := .later }
def JsonPrintsUptoCardSaid : Prop := Claim7.holds Tryz.pinned (.plain (OpenSpec.upto jsonPrintsSpec)) jsonPrintsUptoCard

/-- THE SECOND FORM's CARD OF 'cracknellaw08.JsonParses'. -/
def jsonParsesUptoCard : Claim7 := { stood := { row := jsonParsesUptoRow, standIns := [], harness := (true, "af924fa517dbebd94df16b44882bc77858e2fa005954f5021103f9c44084cb80"), looks := true }, kinds := [], alts := [], laidByText := true, laidKinds := [.data, .data, .data, .data, .sentinel, .sentinel, .pinned], laidTests := true, laidLooks := .later }
def JsonParsesUptoCardSaid : Prop := Claim7.holds Tryz.pinned (.plain (OpenSpec.upto jsonParsesSpec)) jsonParsesUptoCard
end Rows
end Go.Proofs.YthhmmaihbjhhgaaGreatDoor
