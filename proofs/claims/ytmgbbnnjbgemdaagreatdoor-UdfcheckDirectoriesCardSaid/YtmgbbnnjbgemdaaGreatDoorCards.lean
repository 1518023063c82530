/-
  DERIVED. GIVEN WITH THE SEED: THE CARDS: each row of YtmgbbnnjbgemdaaGreatDoorRows.lean that lists a variable, with what it lists TIED to the program's text (the seventh form; the later family's looks); each row that meets fmt, with fmt's text TOLD by the authors' own Lean function (tested against real Go, not proved from fmt's source: count such statements apart). THE CARD IS WHAT COUNTS. Prove the row's statement (the work); the ties are given (YtmgbbnnjbgemdaaGreatDoorTie.lean); close each card by the builder's one call (the guide's Derived/Test/ToyasCard.lean, 'card_holds'). Laid BY PROGRAM, IN A SANDBOX (cutbox-door.mjs). By AI agents, Wed Nov 11 2026. No macro, syntax, notation, axiom, sorry.
-/
import Derived.Test.YtmgbbnnjbgemdaaGreatDoorRows
import GoSem.ClaimSeven
namespace Go.Proofs.YtmgbbnnjbgemdaaGreatDoor
namespace Rows

/-- THE TIED CARD OF 'masterdisclaw45.UdfcheckDirectories'. -/
def udfcheckDirectoriesCard : Claim7 := { stood := { row := udfcheckDirectoriesRow, standIns := [], harness := (true, "d53112ccac5e38b471916aafc937c841d4c440fcfc55594af52887d916ab2957"), looks := false }, kinds := [], alts := [], laidByText := true, laidKinds := [.pinned, .data, .data, .data, .data], laidTests := true, laidLooks := .later }
def UdfcheckDirectoriesCardSaid : Prop := Claim7.holds Tryz.pinned (.plain (OpenSpec.ofChange udfcheckDirectoriesSpec)) udfcheckDirectoriesCard

/-- THE SECOND FORM's CARD OF 'masterdisclaw45.UdfcheckDirectories'. -/
def udfcheckDirectoriesUptoCard : Claim7 := { stood := { row := udfcheckDirectoriesUptoRow, standIns := [], harness := (true, "d53112ccac5e38b471916aafc937c841d4c440fcfc55594af52887d916ab2957"), looks := false }, kinds := [], alts := [], laidByText := true, laidKinds := [.pinned, .data, .data, .data, .data], laidTests := true, laidLooks := .later }
def UdfcheckDirectoriesUptoCardSaid : Prop := Claim7.holds Tryz.pinned (.plain (OpenSpec.upto udfcheckDirectoriesSpec)) udfcheckDirectoriesUptoCard
end Rows
end Go.Proofs.YtmgbbnnjbgemdaaGreatDoor
