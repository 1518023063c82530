/- Law 54, DefragCounts: a part of the proof. -/
import Derived.Test.YtihcgekdnljahaaGreatDoorQ13
section
namespace Go.Proofs.YtihcgekdnljahaaGreatDoor
open Go
theorem tieDone(os:Os)(tape:Tape):varsDone Tryz.prog 400 941 os tape=true:=by kernel_rfl
end Go.Proofs.YtihcgekdnljahaaGreatDoor
end
section
namespace Go.Proofs.YtihcgekdnljahaaGreatDoor
open Go
theorem tieRun(os:Os)(tape:Tape):(DataW.laidRun Tryz.prog (varsWorld Tryz.prog 400 941 os tape).memory 8 (tieLaid.map (·.1))).map (·.1)=some tieLaid:=by kernel_rfl
end Go.Proofs.YtihcgekdnljahaaGreatDoor
end
section
namespace Go.Proofs.YtihcgekdnljahaaGreatDoor
open Go
theorem tieRows(os:Os)(tape:Tape):(DataW.laidRun Tryz.prog (varsWorld Tryz.prog 400 941 os tape).memory 8 (tieLaid.map (·.1))).map (fun x=>decide x.2.Nodup&&laidRowsB Tryz.prog (varsWorld Tryz.prog 400 941 os tape).memory x.2)=some true:=by kernel_rfl
end Go.Proofs.YtihcgekdnljahaaGreatDoor
end
