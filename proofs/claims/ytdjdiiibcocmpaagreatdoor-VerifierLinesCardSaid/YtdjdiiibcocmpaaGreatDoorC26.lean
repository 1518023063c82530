/- The example's run: a checkpoint of verifier.shown. Conditions: none. -/
import Derived.Test.YtdjdiiibcocmpaaGreatDoorCaa
namespace Go.Proofs.YtdjdiiibcocmpaaGreatDoor
open Go Go.Ev Go.Proofs
set_option maxRecDepth 1000000 in
theorem run_c26 : bc (callN pg X0 S1 150 (.func 63) c863 c866 (ckK [25645, 25644, 23102, 23064, 22867, 22866, 22700, 22699, 22386, 22385, 22022, 22021, 22020, 22019, 22018, 22017, 22016, 22015, 22014, 22013, 22012, 22011, 22009, 22008, 22007, 22010, 22006, 22005, 22004, 22003, 19208, 19207, 13933, 13932, 13931, 13930, 8656, 8655, 8654, 8653, 8652, 8651, 8650, 1275, 1043, 1003, 2, 1, 0, 26480, 26274, 26243, 26212] c866 c869 c868)) true false = true := by kernel_rfl
theorem spec_c26 : FunSpec pg 63 c863 c866 c869 c868 := ck_spec (callN_sound hX hS1 mixed 150) (bcId run_c26)
end Go.Proofs.YtdjdiiibcocmpaaGreatDoor
