/- The example's run: a checkpoint of verifier.report. Conditions: none. -/
import Derived.Test.YtdjdiiibcocmpaaGreatDoorC05
import Derived.Test.YtdjdiiibcocmpaaGreatDoorC07
import Derived.Test.YtdjdiiibcocmpaaGreatDoorC08
import Derived.Test.YtdjdiiibcocmpaaGreatDoorC09
namespace Go.Proofs.YtdjdiiibcocmpaaGreatDoor
open Go Go.Ev Go.Proofs
set_option maxRecDepth 1000000 in
theorem run_c10 : bc (callN pg X0 (addS (addS (addS (addS S1 31 (ckS c527 c534 c553 c550)) 60 (ckS c452 c587 c3 c588)) 61 (ckS c452 c588 c3 c589)) 63 (ckS c590 c595 c603 c601)) 150 (.func 30) c527 c605 (ckK [8656, 8655, 8654, 8653, 8652, 8651, 8650, 1275, 1043, 1003, 2, 1, 0] c605 c607 c606)) true false = true := by kernel_rfl
theorem spec_c10 : FunSpec pg 30 c527 c605 c607 c606 := ck_spec (callN_sound hX (addS_sound (addS_sound (addS_sound (addS_sound hS1 (ckS_sound spec_c5)) (ckS_sound spec_c7)) (ckS_sound spec_c8)) (ckS_sound spec_c9)) mixed 150) (bcId run_c10)
end Go.Proofs.YtdjdiiibcocmpaaGreatDoor
