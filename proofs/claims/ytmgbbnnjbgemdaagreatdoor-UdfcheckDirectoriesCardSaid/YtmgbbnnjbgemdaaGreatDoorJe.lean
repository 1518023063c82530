/- Law 45, UdfcheckDirectories: of the row's closed facts: those of the whole program. -/
import Derived.Test.YtmgbbnnjbgemdaaGreatDoorRows
import Derived.Test.YtmgbbnnjbgemdaaGreatDoorLaid
import Derived.JoinedOf
import Derived.KernelRfl
namespace Go.Proofs.YtmgbbnnjbgemdaaGreatDoor
open Go
theorem cellLaid : laidOutB Tryz.prog = true := laidOut
theorem cellMaps : mapsRowed Tryz.prog = true := by kernel_rfl
theorem cellStops : (Tryz.prog.stops == []) = true := by kernel_rfl
theorem cellKnobs : (Tryz.prog.stopKnobs == []) = true := by kernel_rfl
theorem cellPlain : (Rows.udfcheckDirectoriesRow.plainKeys == Tryz.prog.plainKeys) = true := by kernel_rfl
theorem cellHeard : Tryz.prog.stopsHeard = true := by kernel_rfl
theorem cellEnter : Tryz.prog.mayEnter = true := by kernel_rfl
theorem cellLifts : (Rows.udfcheckDirectoriesRow.lifted == Tryz.prog.liftsFinal) = true := by kernel_rfl
theorem cellMake : (Tryz.prog.make == some Rows.udfcheckDirectoriesRow.make) = true := by kernel_rfl
end Go.Proofs.YtmgbbnnjbgemdaaGreatDoor
