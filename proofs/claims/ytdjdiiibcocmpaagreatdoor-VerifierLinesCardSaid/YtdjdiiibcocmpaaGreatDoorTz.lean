/- Law 58, VerifierLines: what the row lists, tied: the initialisers' run. Conditions: as each theorem says. -/
import Derived.Test.YtdjdiiibcocmpaaGreatDoorTy
/- Law 58, VerifierLines: what the row lists, tied: the initialisers' run ends. -/
namespace Go.Proofs.YtdjdiiibcocmpaaGreatDoor
open Go
theorem tieDone (os : Os) (tape : Tape) : varsDone Tryz.prog 400 1052 os tape = true := by kernel_rfl
end Go.Proofs.YtdjdiiibcocmpaaGreatDoor
/- Law 58, VerifierLines: what the row lists, tied: what the run lays. -/
namespace Go.Proofs.YtdjdiiibcocmpaaGreatDoor
open Go
theorem tieRun (os : Os) (tape : Tape) : (DataW.laidRun Tryz.prog (varsWorld Tryz.prog 400 1052 os tape).memory 8 (tieLaid.map (·.1))).map (·.1) = some tieLaid := by kernel_rfl
end Go.Proofs.YtdjdiiibcocmpaaGreatDoor
/- Law 58, VerifierLines: what the row lists, tied: what the run lays is apart. -/
namespace Go.Proofs.YtdjdiiibcocmpaaGreatDoor
open Go
theorem tieRows (os : Os) (tape : Tape) : (DataW.laidRun Tryz.prog (varsWorld Tryz.prog 400 1052 os tape).memory 8 (tieLaid.map (·.1))).map (fun x => decide x.2.Nodup && laidRowsB Tryz.prog (varsWorld Tryz.prog 400 1052 os tape).memory x.2) = some true := by kernel_rfl
end Go.Proofs.YtdjdiiibcocmpaaGreatDoor
