/-
  DERIVED. GIVEN WITH THE SEED: THE CARDS: each row of YtdjdiiibcocmpaaGreatDoorRows.lean that lists a variable, with what it lists TIED to the program's text (the seventh form; the later family's looks); each row that meets fmt, with fmt's text TOLD by the authors' own Lean function (tested against real Go, not proved from fmt's source: count such statements apart). THE CARD IS WHAT COUNTS. Prove the row's statement (the work); the ties are given (YtdjdiiibcocmpaaGreatDoorTie.lean); close each card by the builder's one call (the guide's Derived/Test/ToyasCard.lean, 'card_holds'). Laid BY PROGRAM, IN A SANDBOX (cutbox-door.mjs). By AI agents, Wed Nov 11 2026. No macro, syntax, notation, axiom, sorry.
-/
import Derived.Test.YtdjdiiibcocmpaaGreatDoorRows
import GoSem.ClaimSeven
namespace Go.Proofs.YtdjdiiibcocmpaaGreatDoor
namespace Rows

/-- THE TIED CARD OF 'masterdisclaw58.VerifierLines'. -/
def verifierLinesCard : Claim7 := { stood := { row := verifierLinesRow, standIns := [], harness := (true, "83e50e3c8a3d17f129f9a7c674de3f172f3ee584ee661c900419666e889999a5"), looks := true }, kinds := [], alts := [], laidByText := true, laidKinds := [.data, .data, .data, .data, .sentinel, .sentinel, .pinned], laidTests := true, laidLooks := .later }
def VerifierLinesCardSaid : Prop := Claim7.holds Tryz.pinned (.plain (OpenSpec.ofChange verifierLinesSpec)) verifierLinesCard

/-- THE SECOND FORM's CARD OF 'masterdisclaw58.VerifierLines'. -/
def verifierLinesUptoCard : Claim7 := { stood := { row := verifierLinesUptoRow, standIns := [], harness := (true, "83e50e3c8a3d17f129f9a7c674de3f172f3ee584ee661c900419666e889999a5"), looks := true }, kinds := [], alts := [], laidByText := true, laidKinds := [.data, .data, .data, .data, .sentinel, .sentinel, .pinned], laidTests := true, laidLooks := .later }
def VerifierLinesUptoCardSaid : Prop := Claim7.holds Tryz.pinned (.plain (OpenSpec.upto verifierLinesSpec)) verifierLinesUptoCard
end Rows
end Go.Proofs.YtdjdiiibcocmpaaGreatDoor
