/- Law 45, UdfcheckDirectories: what the row lists, tied: what the run lays is apart. -/
import Derived.Test.YtmgbbnnjbgemdaaGreatDoorTa
namespace Go.Proofs.YtmgbbnnjbgemdaaGreatDoor
open Go
theorem tieRows (os : Os) (tape : Tape) : (DataW.laidRun Tryz.prog (varsWorld Tryz.prog 400 (varsId Tryz.prog) os tape).memory 8 (tieLaid.map (·.1))).map (fun x => decide x.2.Nodup && laidRowsB Tryz.prog (varsWorld Tryz.prog 400 (varsId Tryz.prog) os tape).memory x.2) = some true := by kernel_rfl
end Go.Proofs.YtmgbbnnjbgemdaaGreatDoor
