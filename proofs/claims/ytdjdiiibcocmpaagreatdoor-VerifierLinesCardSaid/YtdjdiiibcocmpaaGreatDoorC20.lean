/- The example's run: a checkpoint of verifier.Source. Conditions: none. -/
import Derived.Test.YtdjdiiibcocmpaaGreatDoorC19
namespace Go.Proofs.YtdjdiiibcocmpaaGreatDoor
open Go Go.Ev Go.Proofs
set_option maxRecDepth 1000000 in
theorem run_c20 : bc (callN pg X0 (addS S1 31 (ckS c527 c750 c752 c751)) 150 (.func 17) c753 c755 (ckK [19208, 19207, 13933, 13932, 13931, 13930, 8656, 8655, 8654, 8653, 8652, 8651, 8650, 1275, 1043, 1003, 2, 1, 0] c755 c757 c756)) true false = true := by kernel_rfl
theorem spec_c20 : FunSpec pg 17 c753 c755 c757 c756 := ck_spec (callN_sound hX (addS_sound hS1 (ckS_sound spec_c19)) mixed 150) (bcId run_c20)
end Go.Proofs.YtdjdiiibcocmpaaGreatDoor
