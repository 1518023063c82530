/- The example's run: a checkpoint of isocheck.Check. Conditions: none. -/
import Derived.Test.YtdjdiiibcocmpaaGreatDoorC06
namespace Go.Proofs.YtdjdiiibcocmpaaGreatDoor
open Go Go.Ev Go.Proofs
set_option maxRecDepth 1000000 in
theorem run_c7 : bc (callN pg X0 (addS S1 65 (ckS c452 c577 c585 c584)) 150 (.func 60) c452 c587 (ckK [9739, 9701, 9504, 9503, 9337, 9336, 9023, 9022, 8659, 8658, 8657, 8656, 8655, 8654, 8653, 8652, 8651, 8650, 1275, 1043, 1003, 2, 1, 0] c587 c3 c588)) true false = true := by kernel_rfl
theorem spec_c7 : FunSpec pg 60 c452 c587 c3 c588 := ck_spec (callN_sound hX (addS_sound hS1 (ckS_sound spec_c6)) mixed 150) (bcId run_c7)
end Go.Proofs.YtdjdiiibcocmpaaGreatDoor
