/- Law 45, UdfcheckDirectories: of the row's closed facts: the functions it leads to; what is answered in place; calls that are not followed; recursion; the package variables that are named. -/
import Derived.Test.YtmgbbnnjbgemdaaGreatDoorRows
import Derived.Test.YtmgbbnnjbgemdaaGreatDoorJz
import Derived.JoinedOf
import Derived.KernelRfl
namespace Go.Proofs.YtmgbbnnjbgemdaaGreatDoor
open Go
set_option maxRecDepth 1000000 in
theorem clos_some : someAt 1500 = true := by kernel_rfl
set_option maxRecDepth 1000000 in
theorem clos_fuel : fuelAt 1500 = true := by kernel_rfl
theorem clos : Tryz.prog.closure 3 = closL 1500 := closure_of 1500 clos_some clos_fuel
end Go.Proofs.YtmgbbnnjbgemdaaGreatDoor
