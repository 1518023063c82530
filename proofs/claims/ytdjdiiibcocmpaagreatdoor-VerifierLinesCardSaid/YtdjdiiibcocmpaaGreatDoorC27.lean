/- The example's run: a checkpoint of verifier.report. Conditions: none. -/
import Derived.Test.YtdjdiiibcocmpaaGreatDoorC22
import Derived.Test.YtdjdiiibcocmpaaGreatDoorC24
import Derived.Test.YtdjdiiibcocmpaaGreatDoorC25
import Derived.Test.YtdjdiiibcocmpaaGreatDoorC26
namespace Go.Proofs.YtdjdiiibcocmpaaGreatDoor
open Go Go.Ev Go.Proofs
set_option maxRecDepth 1000000 in
theorem run_c27 : bc (callN pg X0 (addS (addS (addS (addS S1 31 (ckS c527 c832 c847 c844)) 60 (ckS c452 c860 c3 c861)) 61 (ckS c452 c861 c3 c862)) 63 (ckS c863 c866 c869 c868)) 150 (.func 30) c527 c873 (ckK [22019, 22018, 22017, 22016, 22015, 22014, 22013, 22012, 22011, 22009, 22008, 22007, 22010, 22006, 22005, 22004, 22003, 19208, 19207, 13933, 13932, 13931, 13930, 8656, 8655, 8654, 8653, 8652, 8651, 8650, 1275, 1043, 1003, 2, 1, 0, 27591] c873 c875 c874)) true false = true := by kernel_rfl
theorem spec_c27 : FunSpec pg 30 c527 c873 c875 c874 := ck_spec (callN_sound hX (addS_sound (addS_sound (addS_sound (addS_sound hS1 (ckS_sound spec_c22)) (ckS_sound spec_c24)) (ckS_sound spec_c25)) (ckS_sound spec_c26)) mixed 150) (bcId run_c27)
end Go.Proofs.YtdjdiiibcocmpaaGreatDoor
