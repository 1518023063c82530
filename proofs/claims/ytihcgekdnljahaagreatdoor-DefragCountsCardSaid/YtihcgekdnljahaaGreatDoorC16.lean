/- The example's run: checkpoints of masterdiscref53.Format, masterdiscref53.Commit, volume.load. Conditions: none. -/
import Derived.Test.YtihcgekdnljahaaGreatDoorC00
import Derived.Test.YtihcgekdnljahaaGreatDoorC08
import Derived.Test.YtihcgekdnljahaaGreatDoorC11
import Derived.Test.YtihcgekdnljahaaGreatDoorC12
import Derived.Test.YtihcgekdnljahaaGreatDoorC13
import Derived.Test.YtihcgekdnljahaaGreatDoorC15
namespace Go.Proofs.YtihcgekdnljahaaGreatDoor
open Go Go.Ev Go.Proofs
open K
set_option maxRecDepth 1000000 in
theorem run_4 : bc (callN pg X0 (addS S1 85 (ckS D3O D4d D4k D4j)) 150 (.func 46) D4l D4n (ckK [43,42,41,39,38,37,36,35,34,33,32,31,30,40,29,28,15,14,0,8891,9129,9035,8871,9082,8988,8941,8869,9133] D4n D4I D4H)) true false = true := by kernel_rfl
theorem spec_4 : FunSpec pg 46 D4l D4n D4I D4H := ck_spec (callN_sound hX (addS_sound hS1 (ckS_sound spec_3)) mixed 150) (bcId run_4)
set_option maxRecDepth 1000000 in
theorem run_22 : bc (callN pg X0 (addS (addS (addS S1 55 (ckS A33 E1g E1j E1i)) 63 (ckS E1k E29 E2k E2j)) 25 (ckS E2R E2S E2U E2T)) 150 (.func 27) E2V E2W (ckK (dn [(31210,12),(31196,2),(31192,5),(31185,5),(31178,5),(31171,5),(31165,1),(31162,6),(31155,1),(31156,1),(31154,7),(31145,6),(31138,1),(31139,1),(31137,7),(31128,6),(31121,1),(31122,1),(31120,7),(31111,6),(31104,1),(31105,1),(31103,40),(31163,1),(31129,1),(31146,1),(31112,1),(31147,1),(31113,1),(31130,1),(31164,1),(31166,1),(31063,1),(31061,1),(31062,1),(31060,86),(30973,129),(30974,1),(30844,4),(25554,1),(25546,3),(25542,1),(25531,1),(18634,27),(18605,2),(18601,5),(18594,5),(18587,5),(18581,1),(18578,6),(18571,1),(18572,1),(18570,7),(18561,6),(18554,1),(18555,1),(18553,7),(18544,6),(18537,1),(18538,1),(18536,32),(18562,1),(18579,1),(18545,1),(18580,1),(18546,1),(18563,1),(18582,1),(18504,1),(18502,1),(18503,1),(18501,39),(18461,145),(18315,165),(18316,1),(18150,51),(18462,1),(18099,2),(18635,1),(18607,1),(18595,1),(18602,1),(18588,1),(18603,1),(18589,1),(18596,1),(18606,1),(18097,6),(31211,1),(25709,1),(25712,1),(31198,1),(25741,1),(29178,1),(27845,1),(31193,1),(31179,1),(31186,1),(31172,1),(31187,1),(31173,1),(31180,1),(31194,1),(31197,1),(25561,1),(18091,1),(15603,1),(13438,1),(10127,1),(10098,1),(10095,1),(9952,1),(9950,1),(9948,816),(9129,1),(9082,1),(9035,1),(8988,1),(8941,1),(8891,1),(8871,1),(8869,1),(9949,1),(43,3),(39,10),(40,1),(29,2),(15,2),(0,1),(38075,1),(38072,1),(38076,1),(38074,1),(38059,1),(38155,1),(38128,1),(38158,1),(43230,1),(41321,1),(38349,1),(38317,1),(38320,1),(9951,1),(38167,1)]) E2W E2Y E2X)) true false = true := by kernel_rfl
theorem spec_22 : FunSpec pg 27 E2V E2W E2Y E2X := ck_spec (callN_sound hX (addS_sound (addS_sound (addS_sound hS1 (ckS_sound spec_16)) (ckS_sound spec_17)) (ckS_sound spec_21)) mixed 150) (bcId run_22)
set_option maxRecDepth 1000000 in
theorem run_38 : bc (callN pg X0 (addS (addS (addS (addS S1 66 (ckS E67 E6l E6u E6s)) 70 (ckS A1W E7q E7s E7r)) 71 (ckS A1W E7u E7w B4Y)) 72 (ckS A1W B4Y E7z E7y)) 150 (.func 29) E7A E7B (ckK [56496,56494,56493,56492,56491,56490,52080,9951,15,14,0,58799,58355,56695,56660,56663,56497,56495] E7B E7E E7D)) true false = true := by kernel_rfl
theorem spec_38 : FunSpec pg 29 E7A E7B E7E E7D := ck_spec (callN_sound hX (addS_sound (addS_sound (addS_sound (addS_sound hS1 (ckS_sound spec_31)) (ckS_sound spec_35)) (ckS_sound spec_36)) (ckS_sound spec_37)) mixed 150) (bcId run_38)
end Go.Proofs.YtihcgekdnljahaaGreatDoor
