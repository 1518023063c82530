/- The example's run: a checkpoint of verifier.shown. Conditions: none. -/
import Derived.Test.YtdjdiiibcocmpaaGreatDoorCaa
namespace Go.Proofs.YtdjdiiibcocmpaaGreatDoor
open Go Go.Ev Go.Proofs
set_option maxRecDepth 1000000 in
theorem run_c16 : bc (callN pg X0 S1 150 (.func 63) c696 c699 (ckK [17559, 17558, 15016, 14978, 14781, 14780, 14614, 14613, 14300, 14299, 13936, 13935, 13934, 13933, 13932, 13931, 13930, 8656, 8655, 8654, 8653, 8652, 8651, 8650, 1275, 1043, 1003, 2, 1, 0, 18096, 17861, 17762, 17663] c699 c702 c701)) true false = true := by kernel_rfl
theorem spec_c16 : FunSpec pg 63 c696 c699 c702 c701 := ck_spec (callN_sound hX hS1 mixed 150) (bcId run_c16)
end Go.Proofs.YtdjdiiibcocmpaaGreatDoor
