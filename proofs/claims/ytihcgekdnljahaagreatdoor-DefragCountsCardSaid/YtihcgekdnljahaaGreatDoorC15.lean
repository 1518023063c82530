/- The example's run: checkpoints of masterdiscref53.Open, udfmount.Tree. Conditions: none. -/
import Derived.Test.YtihcgekdnljahaaGreatDoorC08
import Derived.Test.YtihcgekdnljahaaGreatDoorC09
import Derived.Test.YtihcgekdnljahaaGreatDoorC10
import Derived.Test.YtihcgekdnljahaaGreatDoorC11
namespace Go.Proofs.YtihcgekdnljahaaGreatDoor
open Go Go.Ev Go.Proofs
open K
set_option maxRecDepth 1000000 in
theorem run_14 : bc (callN pg X0 (addS (addS (addS S1 53 (ckS A33 D9f D9j D9i)) 54 (ckS A33 D9k D9m B3A)) 55 (ckS A33 B3A D9o D9n)) 150 (.func 25) D9p D9q (ckK (dn [(25566,5),(25560,13),(25546,3),(25542,1),(25531,1),(21694,3),(21690,1),(21688,88),(21599,3),(21595,18),(21575,2),(21571,5),(21564,5),(21557,5),(21551,1),(21548,6),(21541,1),(21542,1),(21540,7),(21531,6),(21524,1),(21525,1),(21523,7),(21514,6),(21507,1),(21508,1),(21506,32),(21532,1),(21549,1),(21515,1),(21550,1),(21516,1),(21533,1),(21552,1),(21474,1),(21472,1),(21473,1),(21471,37),(21689,1),(21691,1),(21565,1),(21572,1),(21558,1),(21576,1),(21573,1),(21566,1),(21559,1),(21577,1),(21596,1),(21600,1),(21434,3),(21430,169),(21431,1),(21261,140),(18641,6),(18634,27),(18605,2),(18601,5),(18594,5),(18587,5),(18581,1),(18578,6),(18571,1),(18572,1),(18570,7),(18561,6),(18554,1),(18555,1),(18553,7),(18544,6),(18537,1),(18538,1),(18536,32),(18562,1),(18579,1),(18545,1),(18580,1),(18546,1),(18563,1),(18582,1),(18504,1),(18502,1),(18503,1),(18501,39),(18461,145),(18315,165),(18316,1),(18150,51),(18462,1),(18099,8),(18635,1),(18607,1),(18595,1),(18602,1),(18588,1),(18603,1),(18589,1),(18596,1),(18606,1),(18091,1),(15603,1),(13438,1),(10127,1),(10098,1),(10095,1),(9952,1),(9950,1),(9948,816),(9129,1),(9082,1),(9035,1),(8988,1),(8941,1),(8891,1),(8871,1),(8869,1),(9949,1),(43,3),(39,10),(40,1),(29,2),(15,2),(0,1),(29178,1),(27845,1),(25741,1),(25709,1),(25712,1),(9951,1),(25561,1)]) D9q D9t D9s)) true false = true := by kernel_rfl
theorem spec_14 : FunSpec pg 25 D9p D9q D9t D9s := ck_spec (callN_sound hX (addS_sound (addS_sound (addS_sound hS1 (ckS_sound spec_11)) (ckS_sound spec_12)) (ckS_sound spec_13)) mixed 150) (bcId run_14)
set_option maxRecDepth 1000000 in
theorem run_35 : bc (callN pg X0 (addS S1 391 (orS (ckS E6x E6U E6W E6V) (orS (ckS E6X E78 E7a E79) (ckS E7b E7l E7n E7m)))) 150 (.func 70) A1W E7q (ckK (dn [(56915,31),(56695,1),(56663,1),(56660,1),(56500,11),(52080,1),(9951,1),(15,2),(0,1),(58355,1)]) E7q E7s E7r)) true false = true := by kernel_rfl
theorem spec_35 : FunSpec pg 70 A1W E7q E7s E7r := ck_spec (callN_sound hX (addS_sound hS1 (orS_sound (ckS_sound spec_32) (orS_sound (ckS_sound spec_33) (ckS_sound spec_34)))) mixed 150) (bcId run_35)
end Go.Proofs.YtihcgekdnljahaaGreatDoor
