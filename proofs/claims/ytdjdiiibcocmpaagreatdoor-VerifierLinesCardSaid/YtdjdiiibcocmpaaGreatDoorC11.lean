/- The example's run: a checkpoint of isomount.Mount. Conditions: none. -/
import Derived.Test.YtdjdiiibcocmpaaGreatDoorCaa
namespace Go.Proofs.YtdjdiiibcocmpaaGreatDoor
open Go Go.Ev Go.Proofs
set_option maxRecDepth 1000000 in
theorem run_c11 : bc (callN pg X0 S1 150 (.func 65) c452 c638 (ckK [13942, 13941, 13940, 13939, 13938, 13937, 13936, 13935, 13934, 13933, 13932, 13931, 13930, 8656, 8655, 8654, 8653, 8652, 8651, 8650, 1275, 1043, 1003, 2, 1, 0, 14614, 14781, 14300, 14613, 14780, 14299] c638 c660 c653)) true false = true := by kernel_rfl
theorem spec_c11 : FunSpec pg 65 c452 c638 c660 c653 := ck_spec (callN_sound hX hS1 mixed 150) (bcId run_c11)
end Go.Proofs.YtdjdiiibcocmpaaGreatDoor
