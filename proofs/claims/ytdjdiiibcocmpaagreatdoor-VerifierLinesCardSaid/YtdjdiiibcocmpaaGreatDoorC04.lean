/- The example's run: a checkpoint of isomount.Mount. Conditions: none. -/
import Derived.Test.YtdjdiiibcocmpaaGreatDoorCaa
namespace Go.Proofs.YtdjdiiibcocmpaaGreatDoor
open Go Go.Ev Go.Proofs
set_option maxRecDepth 1000000 in
theorem run_c4 : bc (callN pg X0 S1 150 (.func 65) c452 c496 (ckK [8665, 8664, 8663, 8662, 8661, 8660, 8659, 8658, 8657, 8656, 8655, 8654, 8653, 8652, 8651, 8650, 1275, 1043, 1003, 2, 1, 0, 9337, 9504, 9023, 9336, 9503, 9022] c496 c526 c518)) true false = true := by kernel_rfl
theorem spec_c4 : FunSpec pg 65 c452 c496 c526 c518 := ck_spec (callN_sound hX hS1 mixed 150) (bcId run_c4)
end Go.Proofs.YtdjdiiibcocmpaaGreatDoor
