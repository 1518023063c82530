/- Law 45, UdfcheckDirectories: what the row lists, tied: what the run lays. -/
import Derived.Test.YtmgbbnnjbgemdaaGreatDoorTa
namespace Go.Proofs.YtmgbbnnjbgemdaaGreatDoor
open Go
theorem tieRun (os : Os) (tape : Tape) : (DataW.laidRun Tryz.prog (varsWorld Tryz.prog 400 (varsId Tryz.prog) os tape).memory 8 (tieLaid.map (·.1))).map (·.1) = some tieLaid := by kernel_rfl
end Go.Proofs.YtmgbbnnjbgemdaaGreatDoor
