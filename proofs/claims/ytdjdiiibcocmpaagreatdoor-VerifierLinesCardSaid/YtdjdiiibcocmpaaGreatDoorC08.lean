/- The example's run: a checkpoint of udfcheck.Check. Conditions: none. -/
import Derived.Test.YtdjdiiibcocmpaaGreatDoorCaa
namespace Go.Proofs.YtdjdiiibcocmpaaGreatDoor
open Go Go.Ev Go.Proofs
set_option maxRecDepth 1000000 in
theorem run_c8 : bc (callN pg X0 S1 150 (.func 61) c452 c588 (ckK [9739, 9701, 9504, 9503, 9337, 9336, 9023, 9022, 8659, 8658, 8657, 8656, 8655, 8654, 8653, 8652, 8651, 8650, 1275, 1043, 1003, 2, 1, 0] c588 c3 c589)) true false = true := by kernel_rfl
theorem spec_c8 : FunSpec pg 61 c452 c588 c3 c589 := ck_spec (callN_sound hX hS1 mixed 150) (bcId run_c8)
end Go.Proofs.YtdjdiiibcocmpaaGreatDoor
