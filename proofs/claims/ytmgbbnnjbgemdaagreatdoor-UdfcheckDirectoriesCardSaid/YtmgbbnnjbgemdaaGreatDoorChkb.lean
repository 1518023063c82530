/- Law 45: the example checks it once more, an anchor lost: the kernel's run. -/
import Derived.Test.YtmgbbnnjbgemdaaGreatDoorData
namespace Go.Proofs.YtmgbbnnjbgemdaaGreatDoor
open Go Go.Ev Go.Proofs
set_option maxRecDepth 1000000 in
theorem run_ck2 : bc (callN pg X0 S1 150 (.func 9) ka2 kh2 (ckK [1351, 3, 2, 1, 0, 2599] kh2 kv2 kk2)) true false = true := by kernel_rfl
theorem spec_ck2 : FunSpec pg 9 ka2 kh2 kv2 kk2 := ck_spec (hF1 150) (bcId run_ck2)
end Go.Proofs.YtmgbbnnjbgemdaaGreatDoor
