/- The example's run: a checkpoint of isocheck.Check. Conditions: none. -/
import Derived.Test.YtdjdiiibcocmpaaGreatDoorC13
namespace Go.Proofs.YtdjdiiibcocmpaaGreatDoor
open Go Go.Ev Go.Proofs
set_option maxRecDepth 1000000 in
theorem run_c14 : bc (callN pg X0 (addS S1 65 (ckS c452 c688 c691 c690)) 150 (.func 60) c452 c693 (ckK [15016, 14978, 14781, 14780, 14614, 14613, 14300, 14299, 13936, 13935, 13934, 13933, 13932, 13931, 13930, 8656, 8655, 8654, 8653, 8652, 8651, 8650, 1275, 1043, 1003, 2, 1, 0] c693 c3 c694)) true false = true := by kernel_rfl
theorem spec_c14 : FunSpec pg 60 c452 c693 c3 c694 := ck_spec (callN_sound hX (addS_sound hS1 (ckS_sound spec_c13)) mixed 150) (bcId run_c14)
end Go.Proofs.YtdjdiiibcocmpaaGreatDoor
