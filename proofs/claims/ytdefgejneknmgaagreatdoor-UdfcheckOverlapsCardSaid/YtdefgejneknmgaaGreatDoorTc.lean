/- Law 45, UdfcheckOverlaps: what the row lists, tied: the initialisers' run ends. -/
import Derived.Test.YtdefgejneknmgaaGreatDoorTa
namespace Go.Proofs.YtdefgejneknmgaaGreatDoor
open Go
theorem tieDone (os : Os) (tape : Tape) : varsDone Tryz.prog 400 (varsId Tryz.prog) os tape = true := by kernel_rfl
end Go.Proofs.YtdefgejneknmgaaGreatDoor
