/- Law 45, UdfcheckOverlaps: of the row's closed facts: the package variables that are named. -/
import Derived.Test.YtdefgejneknmgaaGreatDoorJa
namespace Go.Proofs.YtdefgejneknmgaaGreatDoor
open Go
set_option maxRecDepth 1000000 in
theorem cellNamed : (Rows.udfcheckOverlapsRow.named == Tryz.prog.varsNamed 3) = true := by
  unfold Program.varsNamed
  rw [clos]
  kernel_rfl
end Go.Proofs.YtdefgejneknmgaaGreatDoor
