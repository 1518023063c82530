/- The example's run: a checkpoint of isocheck.Check. Conditions: none. -/
import Derived.Test.YtdjdiiibcocmpaaGreatDoorC23
namespace Go.Proofs.YtdjdiiibcocmpaaGreatDoor
open Go Go.Ev Go.Proofs
set_option maxRecDepth 1000000 in
theorem run_c24 : bc (callN pg X0 (addS S1 65 (ckS c452 c855 c858 c857)) 150 (.func 60) c452 c860 (ckK [23102, 23064, 22867, 22866, 22700, 22699, 22386, 22385, 22022, 22021, 22020, 22019, 22018, 22017, 22016, 22015, 22014, 22013, 22012, 22011, 22009, 22008, 22007, 22010, 22006, 22005, 22004, 22003, 19208, 19207, 13933, 13932, 13931, 13930, 8656, 8655, 8654, 8653, 8652, 8651, 8650, 1275, 1043, 1003, 2, 1, 0] c860 c3 c861)) true false = true := by kernel_rfl
theorem spec_c24 : FunSpec pg 60 c452 c860 c3 c861 := ck_spec (callN_sound hX (addS_sound hS1 (ckS_sound spec_c23)) mixed 150) (bcId run_c24)
end Go.Proofs.YtdjdiiibcocmpaaGreatDoor
