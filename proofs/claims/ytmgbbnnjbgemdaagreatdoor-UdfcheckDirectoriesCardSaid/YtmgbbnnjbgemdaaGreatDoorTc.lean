/- Law 45, UdfcheckDirectories: what the row lists, tied: the initialisers' run ends. -/
import Derived.Test.YtmgbbnnjbgemdaaGreatDoorTa
namespace Go.Proofs.YtmgbbnnjbgemdaaGreatDoor
open Go
theorem tieDone (os : Os) (tape : Tape) : varsDone Tryz.prog 400 (varsId Tryz.prog) os tape = true := by kernel_rfl
end Go.Proofs.YtmgbbnnjbgemdaaGreatDoor
