/- Law 45, UdfcheckOverlaps: what the row lists, tied: what the run lays. -/
import Derived.Test.YtdefgejneknmgaaGreatDoorTa
namespace Go.Proofs.YtdefgejneknmgaaGreatDoor
open Go
theorem tieRun (os : Os) (tape : Tape) : (DataW.laidRun Tryz.prog (varsWorld Tryz.prog 400 (varsId Tryz.prog) os tape).memory 8 (tieLaid.map (·.1))).map (·.1) = some tieLaid := by kernel_rfl
end Go.Proofs.YtdefgejneknmgaaGreatDoor
