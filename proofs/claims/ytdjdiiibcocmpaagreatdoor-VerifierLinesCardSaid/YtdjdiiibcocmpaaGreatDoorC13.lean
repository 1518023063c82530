/- The example's run: a checkpoint of isomount.Mount. Conditions: none. -/
import Derived.Test.YtdjdiiibcocmpaaGreatDoorCaa
namespace Go.Proofs.YtdjdiiibcocmpaaGreatDoor
open Go Go.Ev Go.Proofs
set_option maxRecDepth 1000000 in
theorem run_c13 : bc (callN pg X0 S1 150 (.func 65) c452 c688 (ckK [15018, 15017, 15016, 14978, 14781, 14780, 14614, 14613, 14300, 14299, 13936, 13935, 13934, 13933, 13932, 13931, 13930, 8656, 8655, 8654, 8653, 8652, 8651, 8650, 1275, 1043, 1003, 2, 1, 0, 15690, 15857, 15376, 15689, 15856, 15375] c688 c691 c690)) true false = true := by kernel_rfl
theorem spec_c13 : FunSpec pg 65 c452 c688 c691 c690 := ck_spec (callN_sound hX hS1 mixed 150) (bcId run_c13)
end Go.Proofs.YtdjdiiibcocmpaaGreatDoor
