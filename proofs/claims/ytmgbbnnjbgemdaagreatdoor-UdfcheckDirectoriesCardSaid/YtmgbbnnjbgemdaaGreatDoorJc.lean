/- Law 45, UdfcheckDirectories: of the row's closed facts: the package variables that are named. -/
import Derived.Test.YtmgbbnnjbgemdaaGreatDoorJa
namespace Go.Proofs.YtmgbbnnjbgemdaaGreatDoor
open Go
set_option maxRecDepth 1000000 in
theorem cellNamed : (Rows.udfcheckDirectoriesRow.named == Tryz.prog.varsNamed 3) = true := by
  unfold Program.varsNamed
  rw [clos]
  kernel_rfl
end Go.Proofs.YtmgbbnnjbgemdaaGreatDoor
