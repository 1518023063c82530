/- Law 45: the example builds the volume: the kernel's run. -/
import Derived.Test.YtmgbbnnjbgemdaaGreatDoorData
namespace Go.Proofs.YtmgbbnnjbgemdaaGreatDoor
open Go Go.Ev Go.Proofs
set_option maxRecDepth 1000000 in
theorem run_ck0 : bc (callN pg X0 S1 150 (.func 8) ka0 kh0 (ckK [3, 2, 1, 0, 1351] kh0 kv0 kk0)) true false = true := by kernel_rfl
theorem spec_ck0 : FunSpec pg 8 ka0 kh0 kv0 kk0 := ck_spec (hF1 150) (bcId run_ck0)
end Go.Proofs.YtmgbbnnjbgemdaaGreatDoor
