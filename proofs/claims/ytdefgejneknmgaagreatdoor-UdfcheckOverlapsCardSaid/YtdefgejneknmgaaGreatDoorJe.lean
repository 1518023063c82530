/- Law 45, UdfcheckOverlaps: of the row's closed facts: those of the whole program. -/
import Derived.Test.YtdefgejneknmgaaGreatDoorRows
import Derived.JoinedOf
import Derived.KernelRfl
namespace Go.Proofs.YtdefgejneknmgaaGreatDoor
open Go
theorem cellLaid : laidOutB Tryz.prog = true := by kernel_rfl
theorem cellMaps : mapsRowed Tryz.prog = true := by kernel_rfl
theorem cellStops : (Tryz.prog.stops == []) = true := by kernel_rfl
theorem cellKnobs : (Tryz.prog.stopKnobs == []) = true := by kernel_rfl
theorem cellPlain : (Rows.udfcheckOverlapsRow.plainKeys == Tryz.prog.plainKeys) = true := by kernel_rfl
theorem cellHeard : Tryz.prog.stopsHeard = true := by kernel_rfl
theorem cellEnter : Tryz.prog.mayEnter = true := by kernel_rfl
theorem cellLifts : (Rows.udfcheckOverlapsRow.lifted == Tryz.prog.liftsFinal) = true := by kernel_rfl
theorem cellMake : (Tryz.prog.make == some Rows.udfcheckOverlapsRow.make) = true := by kernel_rfl
end Go.Proofs.YtdefgejneknmgaaGreatDoor
