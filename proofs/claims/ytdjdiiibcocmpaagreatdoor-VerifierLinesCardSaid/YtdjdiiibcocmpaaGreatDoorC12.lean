/- The example's run: a checkpoint of master.Mount. Conditions: none. -/
import Derived.Test.YtdjdiiibcocmpaaGreatDoorC11
namespace Go.Proofs.YtdjdiiibcocmpaaGreatDoor
open Go Go.Ev Go.Proofs
set_option maxRecDepth 1000000 in
theorem run_c12 : bc (callN pg X0 (addS S1 65 (ckS c452 c638 c660 c653)) 150 (.func 31) c527 c666 (ckK [13936, 13935, 13934, 13933, 13932, 13931, 13930, 8656, 8655, 8654, 8653, 8652, 8651, 8650, 1275, 1043, 1003, 2, 1, 0, 14978, 14614, 14781, 14300, 14613, 14780, 14299] c666 c682 c679)) true false = true := by kernel_rfl
theorem spec_c12 : FunSpec pg 31 c527 c666 c682 c679 := ck_spec (callN_sound hX (addS_sound hS1 (ckS_sound spec_c11)) mixed 150) (bcId run_c12)
end Go.Proofs.YtdjdiiibcocmpaaGreatDoor
