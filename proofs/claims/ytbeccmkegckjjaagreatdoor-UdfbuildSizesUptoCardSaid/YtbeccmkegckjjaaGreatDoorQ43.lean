/- Law 43, UdfbuildSizes: a part of the proof. -/
import Derived.Test.YtbeccmkegckjjaaGreatDoorQ42
set_option linter.unusedVariables false
set_option linter.ambiguousOpen false
set_option linter.unusedSimpArgs false
section
namespace Go.Proofs.YtbeccmkegckjjaaGreatDoor
open Go Go.Ev Go.Proofs
set_option maxRecDepth 1000000 in
theorem run_ck0:bc (callN pg X0 S1 150 (.func 6) ka0 kh0 (ckK [7,6,5,3,4,1,2,0] kh0 kv0 kk0)) true false=true:=by kernel_rfl
theorem spec_ck0:FunSpec pg 6 ka0 kh0 kv0 kk0:=ck_spec (hF1 150) (bcId run_ck0)
set_option maxRecDepth 1000000 in
theorem run_ck1:bc (callN pg X0 S1 150 (.func 6) ka1 kh1 (ckK [7,6,5,3,4,1,2,0] kh1 kv1 kk1)) true false=true:=by kernel_rfl
theorem spec_ck1:FunSpec pg 6 ka1 kh1 kv1 kk1:=ck_spec (hF1 150) (bcId run_ck1)
set_option maxRecDepth 1000000 in
theorem run_ck2:bc (callN pg X0 S1 150 (.func 6) ka2 kh2 (ckK [7,6,5,3,4,1,2,0] kh2 kv2 kk2)) true false=true:=by kernel_rfl
theorem spec_ck2:FunSpec pg 6 ka2 kh2 kv2 kk2:=ck_spec (hF1 150) (bcId run_ck2)
set_option maxRecDepth 1000000 in
theorem run_ck3:bc (callN pg X0 S1 150 (.func 6) ka3 kh3 (ckK [7,6,5,3,4,1,2,0] kh3 kv3 kk3)) true false=true:=by kernel_rfl
theorem spec_ck3:FunSpec pg 6 ka3 kh3 kv3 kk3:=ck_spec (hF1 150) (bcId run_ck3)
end Go.Proofs.YtbeccmkegckjjaaGreatDoor
end
