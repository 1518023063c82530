/- The example's run: a checkpoint of verifier.shown. Conditions: none. -/
import Derived.Test.YtdjdiiibcocmpaaGreatDoorCaa
namespace Go.Proofs.YtdjdiiibcocmpaaGreatDoor
open Go Go.Ev Go.Proofs
set_option maxRecDepth 1000000 in
theorem run_c9 : bc (callN pg X0 S1 150 (.func 63) c590 c595 (ckK [12282, 12281, 9739, 9701, 9504, 9503, 9337, 9336, 9023, 9022, 8659, 8658, 8657, 8656, 8655, 8654, 8653, 8652, 8651, 8650, 1275, 1043, 1003, 2, 1, 0, 12819, 12584, 12485, 12386] c595 c603 c601)) true false = true := by kernel_rfl
theorem spec_c9 : FunSpec pg 63 c590 c595 c603 c601 := ck_spec (callN_sound hX hS1 mixed 150) (bcId run_c9)
end Go.Proofs.YtdjdiiibcocmpaaGreatDoor
