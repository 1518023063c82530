/- The example's run: a checkpoint of isomount.Mount. Conditions: none. -/
import Derived.Test.YtdjdiiibcocmpaaGreatDoorCaa
namespace Go.Proofs.YtdjdiiibcocmpaaGreatDoor
open Go Go.Ev Go.Proofs
set_option maxRecDepth 1000000 in
theorem run_c23 : bc (callN pg X0 S1 150 (.func 65) c452 c855 (ckK [23104, 23103, 23102, 23064, 22867, 22866, 22700, 22699, 22386, 22385, 22022, 22021, 22020, 22019, 22018, 22017, 22016, 22015, 22014, 22013, 22012, 22011, 22009, 22008, 22007, 22010, 22006, 22005, 22004, 22003, 19208, 19207, 13933, 13932, 13931, 13930, 8656, 8655, 8654, 8653, 8652, 8651, 8650, 1275, 1043, 1003, 2, 1, 0, 23776, 23943, 23462, 23775, 23942, 23461] c855 c858 c857)) true false = true := by kernel_rfl
theorem spec_c23 : FunSpec pg 65 c452 c855 c858 c857 := ck_spec (callN_sound hX hS1 mixed 150) (bcId run_c23)
end Go.Proofs.YtdjdiiibcocmpaaGreatDoor
