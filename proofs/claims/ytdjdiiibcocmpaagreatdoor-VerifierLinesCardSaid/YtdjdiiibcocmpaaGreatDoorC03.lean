/- The example's run: a checkpoint of masterdiscref49.Build. Conditions: none. -/
import Derived.Test.YtdjdiiibcocmpaaGreatDoorC01
import Derived.Test.YtdjdiiibcocmpaaGreatDoorC02
namespace Go.Proofs.YtdjdiiibcocmpaaGreatDoor
open Go Go.Ev Go.Proofs
set_option maxRecDepth 1000000 in
theorem run_c3 : bc (callN pg X0 (addS (addS S1 56 (ckS c8 c375 c390 c389)) 59 (ckS c391 c400 c422 c421)) 150 (.func 14) c423 c424 (ckK [2, 1, 0, 1043, 1003, 8650, 1275] c424 c451 c447)) true false = true := by kernel_rfl
theorem spec_c3 : FunSpec pg 14 c423 c424 c451 c447 := ck_spec (callN_sound hX (addS_sound (addS_sound hS1 (ckS_sound spec_c1)) (ckS_sound spec_c2)) mixed 150) (bcId run_c3)
end Go.Proofs.YtdjdiiibcocmpaaGreatDoor
