/- The example's run: a checkpoint of master.Mount. Conditions: none. -/
import Derived.Test.YtdjdiiibcocmpaaGreatDoorC18
namespace Go.Proofs.YtdjdiiibcocmpaaGreatDoor
open Go Go.Ev Go.Proofs
set_option maxRecDepth 1000000 in
theorem run_c19 : bc (callN pg X0 (addS S1 65 (ckS c452 c733 c747 c740)) 150 (.func 31) c527 c750 (ckK [19212, 19211, 19210, 19209, 19208, 19207, 13933, 13932, 13931, 13930, 8656, 8655, 8654, 8653, 8652, 8651, 8650, 1275, 1043, 1003, 2, 1, 0, 20254, 19890, 20057, 19576, 19889, 20056, 19575] c750 c752 c751)) true false = true := by kernel_rfl
theorem spec_c19 : FunSpec pg 31 c527 c750 c752 c751 := ck_spec (callN_sound hX (addS_sound hS1 (ckS_sound spec_c18)) mixed 150) (bcId run_c19)
end Go.Proofs.YtdjdiiibcocmpaaGreatDoor
