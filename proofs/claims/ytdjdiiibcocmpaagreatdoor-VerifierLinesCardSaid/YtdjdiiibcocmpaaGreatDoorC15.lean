/- The example's run: a checkpoint of udfcheck.Check. Conditions: none. -/
import Derived.Test.YtdjdiiibcocmpaaGreatDoorCaa
namespace Go.Proofs.YtdjdiiibcocmpaaGreatDoor
open Go Go.Ev Go.Proofs
set_option maxRecDepth 1000000 in
theorem run_c15 : bc (callN pg X0 S1 150 (.func 61) c452 c694 (ckK [15016, 14978, 14781, 14780, 14614, 14613, 14300, 14299, 13936, 13935, 13934, 13933, 13932, 13931, 13930, 8656, 8655, 8654, 8653, 8652, 8651, 8650, 1275, 1043, 1003, 2, 1, 0] c694 c3 c695)) true false = true := by kernel_rfl
theorem spec_c15 : FunSpec pg 61 c452 c694 c3 c695 := ck_spec (callN_sound hX hS1 mixed 150) (bcId run_c15)
end Go.Proofs.YtdjdiiibcocmpaaGreatDoor
