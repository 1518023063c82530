/- The example's run: a checkpoint of isomount.Mount. Conditions: none. -/
import Derived.Test.YtdjdiiibcocmpaaGreatDoorCaa
namespace Go.Proofs.YtdjdiiibcocmpaaGreatDoor
open Go Go.Ev Go.Proofs
set_option maxRecDepth 1000000 in
theorem run_c18 : bc (callN pg X0 S1 150 (.func 65) c452 c733 (ckK [19218, 19217, 19216, 19215, 19214, 19213, 19212, 19211, 19210, 19209, 19208, 19207, 13933, 13932, 13931, 13930, 8656, 8655, 8654, 8653, 8652, 8651, 8650, 1275, 1043, 1003, 2, 1, 0, 19890, 20057, 19576, 19889, 20056, 19575] c733 c747 c740)) true false = true := by kernel_rfl
theorem spec_c18 : FunSpec pg 65 c452 c733 c747 c740 := ck_spec (callN_sound hX hS1 mixed 150) (bcId run_c18)
end Go.Proofs.YtdjdiiibcocmpaaGreatDoor
