/-
  DERIVED. GIVEN WITH THE SEED: THE CARDS: each row of YtbeccmkegckjjaaGreatDoorRows.lean that lists a variable, with what it lists TIED to the program's text (the seventh form; the later family's looks); each row that meets fmt, with fmt's text TOLD by the authors' own Lean function (tested against real Go, not proved from fmt's source: count such statements apart). THE CARD IS WHAT COUNTS. Prove the row's statement (the work); the ties are given (YtbeccmkegckjjaaGreatDoorTie.lean); close each card by the builder's one call (the guide's Derived/Test/ToyasCard.lean, 'card_holds'). Laid BY PROGRAM, IN A SANDBOX (cutbox-door.mjs). By AI agents, Wed Nov 11 2026. No macro, syntax, notation, axiom, sorry.
-/
import Derived.Test.YtbeccmkegckjjaaGreatDoorRows
import GoSem.ClaimSeven
namespace Go.Proofs.YtbeccmkegckjjaaGreatDoor
namespace Rows

/-- THE TIED CARD OF 'masterdisclaw43.UdfbuildSizes'. -/
def udfbuildSizesCard : Claim7 := { stood := { row := udfbuildSizesRow, standIns := [], harness := (true, "6b300897f2b3d40ac04eec12704252f286c1eb9ebaa5b89538d199caf14b9c50"), looks := false }, kinds := [], alts := [], laidByText := true, laidKinds := [.data, .data, .data, .data, .pinned], laidTests := true, laidLooks := .later }
def UdfbuildSizesCardSaid : Prop := Claim7.holds Tryz.pinned (.plain (OpenSpec.ofChange udfbuildSizesSpec)) udfbuildSizesCard

/-- THE SECOND FORM's CARD OF 'masterdisclaw43.UdfbuildSizes'. -/
def udfbuildSizesUptoCard : Claim7 := { stood := { row := udfbuildSizesUptoRow, standIns := [], harness := (true, "6b300897f2b3d40ac04eec12704252f286c1eb9ebaa5b89538d199caf14b9c50"), looks := false }, kinds := [], alts := [], laidByText := true, laidKinds := [.data, .data, .data, .data, .pinned], laidTests := true, laidLooks := .later }
def UdfbuildSizesUptoCardSaid : Prop := Claim7.holds Tryz.pinned (.plain (OpenSpec.upto udfbuildSizesSpec)) udfbuildSizesUptoCard
end Rows
end Go.Proofs.YtbeccmkegckjjaaGreatDoor
