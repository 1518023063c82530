/- The example's run: checkpoints of masterdiscref54.Example, defrag.Run. Conditions: none. -/
import Derived.Test.YtihcgekdnljahaaGreatDoorC02
import Derived.Test.YtihcgekdnljahaaGreatDoorC03
import Derived.Test.YtihcgekdnljahaaGreatDoorC04
import Derived.Test.YtihcgekdnljahaaGreatDoorC05
import Derived.Test.YtihcgekdnljahaaGreatDoorC14
import Derived.Test.YtihcgekdnljahaaGreatDoorC16
import Derived.Test.YtihcgekdnljahaaGreatDoorC17
namespace Go.Proofs.YtihcgekdnljahaaGreatDoor
open Go Go.Ev Go.Proofs
open K
set_option maxRecDepth 1000000 in
theorem run_30 : bc (callN pg X0 (addS (addS (addS S1 46 (ckS D4l D4n D4I D4H)) 25 (ckS D69 D6f D6h D6g)) 27 (orS (ckS D9u D9v D9z D9y) (orS (ckS E2V E2W E2Y E2X) (ckS E5Z E60 E62 E61)))) 150 (.func 12) E63 B1n (ckK [15,14,0,9951,52080] B1n E66 E65)) true false = true := by kernel_rfl
theorem spec_30 : FunSpec pg 12 E63 B1n E66 E65 := ck_spec (callN_sound hX (addS_sound (addS_sound (addS_sound hS1 (ckS_sound spec_4)) (ckS_sound spec_8)) (orS_sound (ckS_sound spec_15) (orS_sound (ckS_sound spec_22) (ckS_sound spec_29)))) mixed 150) (bcId run_30)
set_option maxRecDepth 1000000 in
theorem run_52 : bc (callN pg X0 (addS (addS (addS (addS S1 8 (ckS E7K E7L E7N E7M)) 72 (orS (ckS A1W E7P E7R E7Q) (ckS A1W E8w E8y E8x))) 161 (ckS E8z F27 F2l F2k)) 29 (ckS F4Q F4R F4T F4S)) 150 (.func 15) F4U B4Z (ckK [59449,59448,63260,63263,63295,65354,64929,63050,59447,59446,59445,58799,58355,56695,56663,56660,56497,56496,56495,56494,56493,56492,56491,56490,52080,9951,15,14,0,62950,62939,62949,62928,62920,63020,63023,65975] B4Z F4W F4V)) true false = true := by kernel_rfl
theorem spec_52 : FunSpec pg 15 F4U B4Z F4W F4V := ck_spec (callN_sound hX (addS_sound (addS_sound (addS_sound (addS_sound hS1 (ckS_sound spec_40)) (orS_sound (ckS_sound spec_41) (ckS_sound spec_42))) (ckS_sound spec_43)) (ckS_sound spec_51)) mixed 150) (bcId run_52)
end Go.Proofs.YtihcgekdnljahaaGreatDoor
