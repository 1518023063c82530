/- Law 58: what its example runs upon: functions that the model answers in place, the table of the CRC. Conditions: none. -/
import Derived.Test.YtdjdiiibcocmpaaGreatDoorProg
import Derived.Test.YtdjdiiibcocmpaaGreatDoorShelf
import Derived.KernelRfl
import Derived.Test.YtdjdiiibcocmpaaGreatDoorEvc
namespace Go.Proofs.YtdjdiiibcocmpaaGreatDoor
open Go Go.Ev Go.Proofs
noncomputable section
abbrev pg : Program := Tryz.prog
def X0 : Nat → Option Ev.Call := fun f => bc (Nat.beq f 663) (some ixbX) (bc (Nat.beq f 903) (some nescX) none)
/-- The table of the CRC. -/
def crcTab : AV := .agg [.int .u16 (.ofNat 0), .int .u16 (.ofNat 4129), .int .u16 (.ofNat 8258), .int .u16 (.ofNat 12387), .int .u16 (.ofNat 16516), .int .u16 (.ofNat 20645), .int .u16 (.ofNat 24774), .int .u16 (.ofNat 28903), .int .u16 (.ofNat 33032), .int .u16 (.ofNat 37161), .int .u16 (.ofNat 41290), .int .u16 (.ofNat 45419), .int .u16 (.ofNat 49548), .int .u16 (.ofNat 53677), .int .u16 (.ofNat 57806), .int .u16 (.ofNat 61935), .int .u16 (.ofNat 4657), .int .u16 (.ofNat 528), .int .u16 (.ofNat 12915), .int .u16 (.ofNat 8786), .int .u16 (.ofNat 21173), .int .u16 (.ofNat 17044), .int .u16 (.ofNat 29431), .int .u16 (.ofNat 25302), .int .u16 (.ofNat 37689), .int .u16 (.ofNat 33560), .int .u16 (.ofNat 45947), .int .u16 (.ofNat 41818), .int .u16 (.ofNat 54205), .int .u16 (.ofNat 50076), .int .u16 (.ofNat 62463), .int .u16 (.ofNat 58334), .int .u16 (.ofNat 9314), .int .u16 (.ofNat 13379), .int .u16 (.ofNat 1056), .int .u16 (.ofNat 5121), .int .u16 (.ofNat 25830), .int .u16 (.ofNat 29895), .int .u16 (.ofNat 17572), .int .u16 (.ofNat 21637), .int .u16 (.ofNat 42346), .int .u16 (.ofNat 46411), .int .u16 (.ofNat 34088), .int .u16 (.ofNat 38153), .int .u16 (.ofNat 58862), .int .u16 (.ofNat 62927), .int .u16 (.ofNat 50604), .int .u16 (.ofNat 54669), .int .u16 (.ofNat 13907), .int .u16 (.ofNat 9842), .int .u16 (.ofNat 5649), .int .u16 (.ofNat 1584), .int .u16 (.ofNat 30423), .int .u16 (.ofNat 26358), .int .u16 (.ofNat 22165), .int .u16 (.ofNat 18100), .int .u16 (.ofNat 46939), .int .u16 (.ofNat 42874), .int .u16 (.ofNat 38681), .int .u16 (.ofNat 34616), .int .u16 (.ofNat 63455), .int .u16 (.ofNat 59390), .int .u16 (.ofNat 55197), .int .u16 (.ofNat 51132), .int .u16 (.ofNat 18628), .int .u16 (.ofNat 22757), .int .u16 (.ofNat 26758), .int .u16 (.ofNat 30887), .int .u16 (.ofNat 2112), .int .u16 (.ofNat 6241), .int .u16 (.ofNat 10242), .int .u16 (.ofNat 14371), .int .u16 (.ofNat 51660), .int .u16 (.ofNat 55789), .int .u16 (.ofNat 59790), .int .u16 (.ofNat 63919), .int .u16 (.ofNat 35144), .int .u16 (.ofNat 39273), .int .u16 (.ofNat 43274), .int .u16 (.ofNat 47403), .int .u16 (.ofNat 23285), .int .u16 (.ofNat 19156), .int .u16 (.ofNat 31415), .int .u16 (.ofNat 27286), .int .u16 (.ofNat 6769), .int .u16 (.ofNat 2640), .int .u16 (.ofNat 14899), .int .u16 (.ofNat 10770), .int .u16 (.ofNat 56317), .int .u16 (.ofNat 52188), .int .u16 (.ofNat 64447), .int .u16 (.ofNat 60318), .int .u16 (.ofNat 39801), .int .u16 (.ofNat 35672), .int .u16 (.ofNat 47931), .int .u16 (.ofNat 43802), .int .u16 (.ofNat 27814), .int .u16 (.ofNat 31879), .int .u16 (.ofNat 19684), .int .u16 (.ofNat 23749), .int .u16 (.ofNat 11298), .int .u16 (.ofNat 15363), .int .u16 (.ofNat 3168), .int .u16 (.ofNat 7233), .int .u16 (.ofNat 60846), .int .u16 (.ofNat 64911), .int .u16 (.ofNat 52716), .int .u16 (.ofNat 56781), .int .u16 (.ofNat 44330), .int .u16 (.ofNat 48395), .int .u16 (.ofNat 36200), .int .u16 (.ofNat 40265), .int .u16 (.ofNat 32407), .int .u16 (.ofNat 28342), .int .u16 (.ofNat 24277), .int .u16 (.ofNat 20212), .int .u16 (.ofNat 15891), .int .u16 (.ofNat 11826), .int .u16 (.ofNat 7761), .int .u16 (.ofNat 3696), .int .u16 (.ofNat 65439), .int .u16 (.ofNat 61374), .int .u16 (.ofNat 57309), .int .u16 (.ofNat 53244), .int .u16 (.ofNat 48923), .int .u16 (.ofNat 44858), .int .u16 (.ofNat 40793), .int .u16 (.ofNat 36728), .int .u16 (.ofNat 37256), .int .u16 (.ofNat 33193), .int .u16 (.ofNat 45514), .int .u16 (.ofNat 41451), .int .u16 (.ofNat 53516), .int .u16 (.ofNat 49453), .int .u16 (.ofNat 61774), .int .u16 (.ofNat 57711), .int .u16 (.ofNat 4224), .int .u16 (.ofNat 161), .int .u16 (.ofNat 12482), .int .u16 (.ofNat 8419), .int .u16 (.ofNat 20484), .int .u16 (.ofNat 16421), .int .u16 (.ofNat 28742), .int .u16 (.ofNat 24679), .int .u16 (.ofNat 33721), .int .u16 (.ofNat 37784), .int .u16 (.ofNat 41979), .int .u16 (.ofNat 46042), .int .u16 (.ofNat 49981), .int .u16 (.ofNat 54044), .int .u16 (.ofNat 58239), .int .u16 (.ofNat 62302), .int .u16 (.ofNat 689), .int .u16 (.ofNat 4752), .int .u16 (.ofNat 8947), .int .u16 (.ofNat 13010), .int .u16 (.ofNat 16949), .int .u16 (.ofNat 21012), .int .u16 (.ofNat 25207), .int .u16 (.ofNat 29270), .int .u16 (.ofNat 46570), .int .u16 (.ofNat 42443), .int .u16 (.ofNat 38312), .int .u16 (.ofNat 34185), .int .u16 (.ofNat 62830), .int .u16 (.ofNat 58703), .int .u16 (.ofNat 54572), .int .u16 (.ofNat 50445), .int .u16 (.ofNat 13538), .int .u16 (.ofNat 9411), .int .u16 (.ofNat 5280), .int .u16 (.ofNat 1153), .int .u16 (.ofNat 29798), .int .u16 (.ofNat 25671), .int .u16 (.ofNat 21540), .int .u16 (.ofNat 17413), .int .u16 (.ofNat 42971), .int .u16 (.ofNat 47098), .int .u16 (.ofNat 34713), .int .u16 (.ofNat 38840), .int .u16 (.ofNat 59231), .int .u16 (.ofNat 63358), .int .u16 (.ofNat 50973), .int .u16 (.ofNat 55100), .int .u16 (.ofNat 9939), .int .u16 (.ofNat 14066), .int .u16 (.ofNat 1681), .int .u16 (.ofNat 5808), .int .u16 (.ofNat 26199), .int .u16 (.ofNat 30326), .int .u16 (.ofNat 17941), .int .u16 (.ofNat 22068), .int .u16 (.ofNat 55628), .int .u16 (.ofNat 51565), .int .u16 (.ofNat 63758), .int .u16 (.ofNat 59695), .int .u16 (.ofNat 39368), .int .u16 (.ofNat 35305), .int .u16 (.ofNat 47498), .int .u16 (.ofNat 43435), .int .u16 (.ofNat 22596), .int .u16 (.ofNat 18533), .int .u16 (.ofNat 30726), .int .u16 (.ofNat 26663), .int .u16 (.ofNat 6336), .int .u16 (.ofNat 2273), .int .u16 (.ofNat 14466), .int .u16 (.ofNat 10403), .int .u16 (.ofNat 52093), .int .u16 (.ofNat 56156), .int .u16 (.ofNat 60223), .int .u16 (.ofNat 64286), .int .u16 (.ofNat 35833), .int .u16 (.ofNat 39896), .int .u16 (.ofNat 43963), .int .u16 (.ofNat 48026), .int .u16 (.ofNat 19061), .int .u16 (.ofNat 23124), .int .u16 (.ofNat 27191), .int .u16 (.ofNat 31254), .int .u16 (.ofNat 2801), .int .u16 (.ofNat 6864), .int .u16 (.ofNat 10931), .int .u16 (.ofNat 14994), .int .u16 (.ofNat 64814), .int .u16 (.ofNat 60687), .int .u16 (.ofNat 56684), .int .u16 (.ofNat 52557), .int .u16 (.ofNat 48554), .int .u16 (.ofNat 44427), .int .u16 (.ofNat 40424), .int .u16 (.ofNat 36297), .int .u16 (.ofNat 31782), .int .u16 (.ofNat 27655), .int .u16 (.ofNat 23652), .int .u16 (.ofNat 19525), .int .u16 (.ofNat 15522), .int .u16 (.ofNat 11395), .int .u16 (.ofNat 7392), .int .u16 (.ofNat 3265), .int .u16 (.ofNat 61215), .int .u16 (.ofNat 65342), .int .u16 (.ofNat 53085), .int .u16 (.ofNat 57212), .int .u16 (.ofNat 44955), .int .u16 (.ofNat 49082), .int .u16 (.ofNat 36825), .int .u16 (.ofNat 40952), .int .u16 (.ofNat 28183), .int .u16 (.ofNat 32310), .int .u16 (.ofNat 20053), .int .u16 (.ofNat 24180), .int .u16 (.ofNat 11923), .int .u16 (.ofNat 16050), .int .u16 (.ofNat 3793), .int .u16 (.ofNat 7920)]
def tDirect : List (List AV × AV) := [([], crcTab)]
def S00 : Nat → Option Ev.Call := fun f => bc (Nat.beq f 994) (some (memoS tDirect)) none
def noS : Nat → Option Ev.Call := fun _ => none
theorem mixed : pg.follows .mixedOrders = true := by kernel_rfl
theorem bcId {b : Bool} (h : bc b true false = true) : b = true := by cases b <;> first | rfl | exact h
end
theorem hX : XSound pg X0 := fun f x hx args H k hk => by
  unfold X0 at hx
  rw [bc_eq] at hx
  split at hx
  · rename_i hf
    obtain rfl := Option.some.inj hx
    obtain rfl := Nat.eq_of_beq_eq_true hf
    exact ixbX_sound (fn := Tryz.f663) (by kernel_rfl) (by kernel_rfl) (by kernel_rfl) (by kernel_rfl) (by kernel_rfl) args H k hk
  · rw [bc_eq] at hx
    split at hx
    · rename_i hf
      obtain rfl := Option.some.inj hx
      obtain rfl := Nat.eq_of_beq_eq_true hf
      exact nescX_sound (fn := Tryz.f903) (by kernel_rfl) (by kernel_rfl) (by kernel_rfl) (by kernel_rfl) (by kernel_rfl) args H k hk
    · cases hx
theorem hnoS : SSound pg noS := fun f x hx => by cases hx
set_option maxRecDepth 1000000 in
theorem run_direct : bc (callN pg X0 noS 20 (.func 994) [] E0 (memoK crcTab)) true false = true := by kernel_rfl
theorem hS00 : SSound pg S00 := fun f x hx args H k hk => by
  unfold S00 at hx
  rw [bc_eq] at hx
  split at hx
  · rename_i hf
    obtain rfl := Option.some.inj hx
    obtain rfl := Nat.eq_of_beq_eq_true hf
    refine memoS_sound (fun e he H => ?_) hk
    obtain rfl := List.mem_singleton.1 he
    exact memo_spec (callN_sound hX hnoS mixed 20) rfl (bcId run_direct) H
  · cases hx
theorem hF00 : FSound pg (callN pg X0 S00 20) := callN_sound hX hS00 mixed 20
end Go.Proofs.YtdjdiiibcocmpaaGreatDoor
