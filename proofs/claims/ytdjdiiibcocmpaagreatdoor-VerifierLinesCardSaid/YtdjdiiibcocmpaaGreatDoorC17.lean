/- The example's run: a checkpoint of verifier.report. Conditions: none. -/
import Derived.Test.YtdjdiiibcocmpaaGreatDoorC12
import Derived.Test.YtdjdiiibcocmpaaGreatDoorC14
import Derived.Test.YtdjdiiibcocmpaaGreatDoorC15
import Derived.Test.YtdjdiiibcocmpaaGreatDoorC16
namespace Go.Proofs.YtdjdiiibcocmpaaGreatDoor
open Go Go.Ev Go.Proofs
set_option maxRecDepth 1000000 in
theorem run_c17 : bc (callN pg X0 (addS (addS (addS (addS S1 31 (ckS c527 c666 c682 c679)) 60 (ckS c452 c693 c3 c694)) 61 (ckS c452 c694 c3 c695)) 63 (ckS c696 c699 c702 c701)) 150 (.func 30) c527 c707 (ckK [13933, 13932, 13931, 13930, 8656, 8655, 8654, 8653, 8652, 8651, 8650, 1275, 1043, 1003, 2, 1, 0] c707 c607 c708)) true false = true := by kernel_rfl
theorem spec_c17 : FunSpec pg 30 c527 c707 c607 c708 := ck_spec (callN_sound hX (addS_sound (addS_sound (addS_sound (addS_sound hS1 (ckS_sound spec_c12)) (ckS_sound spec_c14)) (ckS_sound spec_c15)) (ckS_sound spec_c16)) mixed 150) (bcId run_c17)
end Go.Proofs.YtdjdiiibcocmpaaGreatDoor
