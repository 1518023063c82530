/- Law 45, UdfcheckOverlaps: what the row lists, tied: the variables' names. -/
import Derived.Test.YtdefgejneknmgaaGreatDoorTa
namespace Go.Proofs.YtdefgejneknmgaaGreatDoor
open Go
theorem tieNamed : varsNamedLaterB Tryz.prog (varsId Tryz.prog) tieLaid = true := by kernel_rfl
end Go.Proofs.YtdefgejneknmgaaGreatDoor
