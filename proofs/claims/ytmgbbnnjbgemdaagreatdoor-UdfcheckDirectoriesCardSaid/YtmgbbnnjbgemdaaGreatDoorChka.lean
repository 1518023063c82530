/- Law 45: the example checks it: the kernel's run. -/
import Derived.Test.YtmgbbnnjbgemdaaGreatDoorData
namespace Go.Proofs.YtmgbbnnjbgemdaaGreatDoor
open Go Go.Ev Go.Proofs
set_option maxRecDepth 1000000 in
theorem run_ck1 : bc (callN pg X0 S1 150 (.func 9) ka1 kh1 (ckK [1351, 3, 2, 1, 0] kh1 kv1 kk1)) true false = true := by kernel_rfl
theorem spec_ck1 : FunSpec pg 9 ka1 kh1 kv1 kk1 := ck_spec (hF1 150) (bcId run_ck1)
end Go.Proofs.YtmgbbnnjbgemdaaGreatDoor
