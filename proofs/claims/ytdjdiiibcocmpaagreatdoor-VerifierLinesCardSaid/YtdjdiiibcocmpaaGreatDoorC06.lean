/- The example's run: a checkpoint of isomount.Mount. Conditions: none. -/
import Derived.Test.YtdjdiiibcocmpaaGreatDoorCaa
namespace Go.Proofs.YtdjdiiibcocmpaaGreatDoor
open Go Go.Ev Go.Proofs
set_option maxRecDepth 1000000 in
theorem run_c6 : bc (callN pg X0 S1 150 (.func 65) c452 c577 (ckK [9741, 9740, 9739, 9701, 9504, 9503, 9337, 9336, 9023, 9022, 8659, 8658, 8657, 8656, 8655, 8654, 8653, 8652, 8651, 8650, 1275, 1043, 1003, 2, 1, 0, 10413, 10580, 10099, 10412, 10579, 10098] c577 c585 c584)) true false = true := by kernel_rfl
theorem spec_c6 : FunSpec pg 65 c452 c577 c585 c584 := ck_spec (callN_sound hX hS1 mixed 150) (bcId run_c6)
end Go.Proofs.YtdjdiiibcocmpaaGreatDoor
