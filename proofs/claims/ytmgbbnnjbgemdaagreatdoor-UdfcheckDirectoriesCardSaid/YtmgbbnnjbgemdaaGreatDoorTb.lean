/- Law 45, UdfcheckDirectories: what the row lists, tied: the variables' names. -/
import Derived.Test.YtmgbbnnjbgemdaaGreatDoorTa
namespace Go.Proofs.YtmgbbnnjbgemdaaGreatDoor
open Go
theorem tieNamed : varsNamedLaterB Tryz.prog (varsId Tryz.prog) tieLaid = true := by kernel_rfl
end Go.Proofs.YtmgbbnnjbgemdaaGreatDoor
