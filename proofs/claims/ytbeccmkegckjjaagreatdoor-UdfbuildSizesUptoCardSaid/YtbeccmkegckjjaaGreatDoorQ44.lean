/- Law 43, UdfbuildSizes: a part of the proof. -/
import Derived.Test.YtbeccmkegckjjaaGreatDoorQ42
set_option linter.unusedVariables false
set_option linter.ambiguousOpen false
set_option linter.unusedSimpArgs false
section
namespace Go.Proofs.YtbeccmkegckjjaaGreatDoor
open Go Go.Ev Go.Proofs
set_option maxRecDepth 1000000 in
theorem run_ck4:bc (callN pg X0 S1 150 (.func 9) ka4 kh4 (ckK [7,6,5,3,4,1,2,0,1873,1621,1580,1642,1874,1600,1467,1295,1579,1877] kh4 kv4 kk4)) true false=true:=by kernel_rfl
theorem spec_ck4:FunSpec pg 9 ka4 kh4 kv4 kk4:=ck_spec (hF1 150) (bcId run_ck4)
end Go.Proofs.YtbeccmkegckjjaaGreatDoor
end
