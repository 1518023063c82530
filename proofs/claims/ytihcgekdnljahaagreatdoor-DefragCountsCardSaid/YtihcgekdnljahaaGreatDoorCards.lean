/-
  DERIVED. GIVEN WITH THE SEED: THE CARDS: each row of YtihcgekdnljahaaGreatDoorRows.lean that lists a variable, with what it lists TIED to the program's text (the seventh form; the later family's looks); each row that meets fmt, with fmt's text TOLD by the authors' own Lean function (tested against real Go, not proved from fmt's source: count such statements apart). THE CARD IS WHAT COUNTS. Prove the row's statement (the work); the ties are given (YtihcgekdnljahaaGreatDoorTie.lean); close each card by the builder's one call (the guide's Derived/Test/ToyasCard.lean, 'card_holds'). Laid BY PROGRAM, IN A SANDBOX (cutbox-door.mjs). By AI agents, Wed Nov 11 2026. No macro, syntax, notation, axiom, sorry.
-/
import Derived.Test.YtihcgekdnljahaaGreatDoorRows
import GoSem.ClaimSeven
namespace Go.Proofs.YtihcgekdnljahaaGreatDoor
namespace Rows

/-- THE TIED CARD OF 'masterdisclaw54.DefragCounts'. -/
def defragCountsCard : Claim7 := { stood := { row := defragCountsRow, standIns := [], harness := (true, "8d61f9eede0b4aa9f110a98df605e6e289451a1f1f70cd069599327bf0170695"), looks := false }, kinds := [], alts := [], laidByText := true, laidKinds := [.data, .data, .data, .data, .pinned], laidTests := true, laidLooks := .later }
def DefragCountsCardSaid : Prop := Claim7.holds Tryz.pinned (.plain (OpenSpec.ofChange defragCountsSpec)) defragCountsCard

/-- THE SECOND FORM's CARD OF 'masterdisclaw54.DefragCounts'. -/
def defragCountsUptoCard : Claim7 := { stood := { row := defragCountsUptoRow, standIns := [], harness := (true, "8d61f9eede0b4aa9f110a98df605e6e289451a1f1f70cd069599327bf0170695"), looks := false }, kinds := [], alts := [], laidByText := true, laidKinds := [.data, .data, .data, .data, .pinned], laidTests := true, laidLooks := .later }
def DefragCountsUptoCardSaid : Prop := Claim7.holds Tryz.pinned (.plain (OpenSpec.upto defragCountsSpec)) defragCountsUptoCard
end Rows
end Go.Proofs.YtihcgekdnljahaaGreatDoor
