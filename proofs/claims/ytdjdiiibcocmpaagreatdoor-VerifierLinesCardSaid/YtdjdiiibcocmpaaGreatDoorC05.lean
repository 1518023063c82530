/- The example's run: a checkpoint of master.Mount. Conditions: none. -/
import Derived.Test.YtdjdiiibcocmpaaGreatDoorC04
namespace Go.Proofs.YtdjdiiibcocmpaaGreatDoor
open Go Go.Ev Go.Proofs
set_option maxRecDepth 1000000 in
theorem run_c5 : bc (callN pg X0 (addS S1 65 (ckS c452 c496 c526 c518)) 150 (.func 31) c527 c534 (ckK [8659, 8658, 8657, 8656, 8655, 8654, 8653, 8652, 8651, 8650, 1275, 1043, 1003, 2, 1, 0, 9701, 9337, 9504, 9023, 9336, 9503, 9022] c534 c553 c550)) true false = true := by kernel_rfl
theorem spec_c5 : FunSpec pg 31 c527 c534 c553 c550 := ck_spec (callN_sound hX (addS_sound hS1 (ckS_sound spec_c4)) mixed 150) (bcId run_c5)
end Go.Proofs.YtdjdiiibcocmpaaGreatDoor
