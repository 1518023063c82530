/- Law 45: the CRC at the strings that come up. -/
import Derived.Test.YtmgbbnnjbgemdaaGreatDoorBase
namespace Go.Proofs.YtmgbbnnjbgemdaaGreatDoor
open Go Go.Ev Go.Proofs
noncomputable section
def ca0 : List AV := [.int .u16 (.ofNat 0), .str 496 0x6373696472657473616d2a00000000000000010107bc10000000000000000000000000000000000000000000000000000000000000000000000000000000000000000000000000000000000000000000000000000000000000000000000000000000000000000000000000000000000065646f63696e5520646573736572706d6f43204154534f000000000000000000000000000000000000000000000000000000000000000000000000000000000065646f63696e5520646573736572706d6f43204154534f0000000000000000000000000000000000000000000000000000000000000000000000000000000000000000000000000000000000000000000000000000000000000000000000000000000000000000000000000000000000000000000000000000000000000000000000000000000000000000000000000000000000000000000000000100000001000300030001000102000000000000000000000000000000000000000000000000000000000044080000000000000001]
def cv0 : AV := .int .u16 (.ofNat 1743)
def ca1 : List AV := [.int .u16 (.ofNat 0), .str 496 0x6373696472657473616d2a00000000640000010100000001000000000000000000000000000000000000000000000000000000000000000000000000000000000000000000000000000000000000000000000000000000000000000000000000000000000000000000000000000000000000000000000000000000000000000000000000000000000000000000000000000000000000000000000000000000000000000000000000000000000000000000333052534e2b000000000100000002]
def cv1 : AV := .int .u16 (.ofNat 38952)
def ca2 : List AV := [.int .u16 (.ofNat 0), .str 430 0x106010000004000000800000000000000000000000000000000000000000000000000000000000000000000000000000000000000000000000000000000000000000000000000000000000000000000000000000000000000000000000000000000000000000000000000000000000000000000000000000000000000000000000000000000000000000000000000000000000000000000000000000000006373696472657473616d2a00000000010000000600000000000000000000000000000800000000000000020100000000746e61696c706d6f4320464455204154534f2a000000080002000000000000000000000000000000000000000000000000000000000000000000000000000000000000000000000000000000000000000000000000000000000000000000000000000000000000000000000000000000000000000000000000000000000000000000000000000000000000000000000000000000000044080000000000000000000000000000000000000000000000000000000000000000000000000000000065646f63696e5520646573736572706d6f43204154534f0000000003]
def cv2 : AV := .int .u16 (.ofNat 20768)
def ca3 : List AV := [.int .u16 (.ofNat 0), .str 8 4]
def cv3 : AV := .int .u16 (.ofNat 3949)
def ca4 : List AV := [.int .u16 (.ofNat 0), .str 496 0]
def cv4 : AV := .int .u16 (.ofNat 0)
def ca5 : List AV := [.int .u16 (.ofNat 0), .str 118 0x20102010201000000010000000100000000000000000000000000000000000000006373696472657473616d2a0000000064000000000000002e000000010000000000000000000000000000000000000000000000000000000000000011000000000000000000000001000000000000010107bc1000]
def cv5 : AV := .int .u16 (.ofNat 61183)
def ca6 : List AV := [.int .u16 (.ofNat 0), .str 496 0x20100000000746e61696c706d6f4320464455204154534f2a00000000000000000000000001000008000000000000000000000000000000000000000000000000000000000000000000000000000000000000000000000000000000000000000000000000000000000002000000000000000000000000000000000000000000000000000000000044080000000000000000000000000000000000000000000000000000000000000000000000000000000065646f63696e5520646573736572706d6f43204154534f0002000000000000000000000000000000000000000000000000000000000000000000000000000000000000000000000000000000000000000000000000000000000000000000000000000000000000000000000000000000000000000000000000000000000000000000000000000000000000000000000000000000000044080000000000000000000000000000000000000000000000000000000000000000000000000000000065646f63696e5520646573736572706d6f43204154534f000000000000000000000000010000000100030003000000000000010107bc1000]
def cv6 : AV := .int .u16 (.ofNat 11755)
def ca7 : List AV := [.int .u16 (.ofNat 0), .str 496 0x30000080000000002000008000]
def cv7 : AV := .int .u16 (.ofNat 55041)
def ca8 : List AV := [.int .u16 (.ofNat 0), .str 24 0x100000800000a0001]
def cv8 : AV := .int .u16 (.ofNat 35338)
def ca9 : List AV := [.int .u16 (.ofNat 0), .str 24 0x610800000000001000000000000000030000080002000001]
def cv9 : AV := .int .u16 (.ofNat 15399)
def ca10 : List AV := [.int .u16 (.ofNat 0), .str 240 0x6108000000000010000000000000000300000800020000010000000100183c2700010082000301010000000000000000000000000000000100000800000a00010000000100188a0a000100b3000301010000005000000000000000000000000000000000000000000000000000000000000000006373696472657473616d2a000000000000000000000000000000000000000001000000000000010107bc1000000000000000010107bc1000000000000000010107bc10000000000000000000000000000000005000000000000000010000000000000000000000000003000000000000040000010000000400000000]
def cv10 : AV := .int .u16 (.ofNat 64434)
def ca11 : List AV := [.int .u16 (.ofNat 0), .str 160 0x1000000000000000000000000000000000000000006373696472657473616d2a000000000000000000000000000000000000000001000000000000010107bc1000000000000000010107bc1000000000000000010107bc10000000000000000000000000000000000000000000000000010000000000000000000000000001000000000000050000010000000400000000]
def cv11 : AV := .int .u16 (.ofNat 10469)
def tCRC : List (List AV × AV) := [(ca0, cv0), (ca1, cv1), (ca2, cv2), (ca3, cv3), (ca4, cv4), (ca5, cv5), (ca6, cv6), (ca7, cv7), (ca8, cv8), (ca9, cv9), (ca10, cv10), (ca11, cv11)]
def tCRCr : List (List AV × AV) := [(ca7, cv7)]
end
set_option maxRecDepth 1000000 in
theorem run_crc0 : bc (callN pg X0 S00 20 (.func 476) ca0 E0 (memoK cv0)) true false = true := by kernel_rfl
set_option maxRecDepth 1000000 in
theorem run_crc1 : bc (callN pg X0 S00 20 (.func 476) ca1 E0 (memoK cv1)) true false = true := by kernel_rfl
set_option maxRecDepth 1000000 in
theorem run_crc2 : bc (callN pg X0 S00 20 (.func 476) ca2 E0 (memoK cv2)) true false = true := by kernel_rfl
set_option maxRecDepth 1000000 in
theorem run_crc3 : bc (callN pg X0 S00 20 (.func 476) ca3 E0 (memoK cv3)) true false = true := by kernel_rfl
set_option maxRecDepth 1000000 in
theorem run_crc4 : bc (callN pg X0 S00 20 (.func 476) ca4 E0 (memoK cv4)) true false = true := by kernel_rfl
set_option maxRecDepth 1000000 in
theorem run_crc5 : bc (callN pg X0 S00 20 (.func 476) ca5 E0 (memoK cv5)) true false = true := by kernel_rfl
set_option maxRecDepth 1000000 in
theorem run_crc6 : bc (callN pg X0 S00 20 (.func 476) ca6 E0 (memoK cv6)) true false = true := by kernel_rfl
set_option maxRecDepth 1000000 in
theorem run_crc7 : bc (callN pg X0 S00 20 (.func 476) ca7 E0 (memoK cv7)) true false = true := by kernel_rfl
set_option maxRecDepth 1000000 in
theorem run_crc8 : bc (callN pg X0 S00 20 (.func 476) ca8 E0 (memoK cv8)) true false = true := by kernel_rfl
set_option maxRecDepth 1000000 in
theorem run_crc9 : bc (callN pg X0 S00 20 (.func 476) ca9 E0 (memoK cv9)) true false = true := by kernel_rfl
set_option maxRecDepth 1000000 in
theorem run_crc10 : bc (callN pg X0 S00 20 (.func 476) ca10 E0 (memoK cv10)) true false = true := by kernel_rfl
set_option maxRecDepth 1000000 in
theorem run_crc11 : bc (callN pg X0 S00 20 (.func 476) ca11 E0 (memoK cv11)) true false = true := by kernel_rfl
set_option maxRecDepth 1000000 in
theorem run_crcr : bc (callN pg X0 S00 20 (.func 376) ca7 E0 (memoK cv7)) true false = true := by kernel_rfl
theorem tCRC_spec : ∀ e ∈ tCRC, ∀ H, FunSpec pg 476 e.1 H e.2 H := by
  intro e he H
  simp only [tCRC, List.mem_cons, List.not_mem_nil, or_false] at he
  rcases he with rfl | rfl | rfl | rfl | rfl | rfl | rfl | rfl | rfl | rfl | rfl | rfl
  · exact memo_spec hF00 rfl (bcId run_crc0) H
  · exact memo_spec hF00 rfl (bcId run_crc1) H
  · exact memo_spec hF00 rfl (bcId run_crc2) H
  · exact memo_spec hF00 rfl (bcId run_crc3) H
  · exact memo_spec hF00 rfl (bcId run_crc4) H
  · exact memo_spec hF00 rfl (bcId run_crc5) H
  · exact memo_spec hF00 rfl (bcId run_crc6) H
  · exact memo_spec hF00 rfl (bcId run_crc7) H
  · exact memo_spec hF00 rfl (bcId run_crc8) H
  · exact memo_spec hF00 rfl (bcId run_crc9) H
  · exact memo_spec hF00 rfl (bcId run_crc10) H
  · exact memo_spec hF00 rfl (bcId run_crc11) H
theorem tCRCr_spec : ∀ e ∈ tCRCr, ∀ H, FunSpec pg 376 e.1 H e.2 H := by
  intro e he H
  obtain rfl := List.mem_singleton.1 he
  exact memo_spec hF00 rfl (bcId run_crcr) H

noncomputable section
/-- What is known of functions without the kinds of maps. -/
def S0 : Nat → Option Ev.Call := fun f => bc (Nat.beq f 476) (some (memoS tCRC)) (bc (Nat.beq f 376) (some (memoS tCRCr)) (bc (Nat.beq f 272) (some repS) none))
def idsK (args : List AV) (_ : Hp) : List Nat := match args with | .sl b _ _ _ :: _ => [b] | .su b _ _ _ :: _ => [b] | _ => []
def vsK : List AV := [.int .i64 (.ofNat 0), .int .i64 (.ofNat 1), .int .i64 (.ofNat 2), .int .i64 (.ofNat 3), .int .i64 (.negSucc 0)]
def kindS : Ev.Call := sumM pg X0 306 (callN pg X0 S0 50) idsK vsK
def S1 : Nat → Option Ev.Call := fun f => bc (Nat.beq f 306) (some kindS) (S0 f)
end
theorem hS0 : SSound pg S0 := fun f x hx args H k hk => by
  unfold S0 at hx
  rw [bc_eq] at hx
  split at hx
  · rename_i hf
    obtain rfl := Option.some.inj hx
    obtain rfl := Nat.eq_of_beq_eq_true hf
    exact memoS_sound tCRC_spec hk
  · rw [bc_eq] at hx
    split at hx
    · rename_i hf
      obtain rfl := Option.some.inj hx
      obtain rfl := Nat.eq_of_beq_eq_true hf
      exact memoS_sound tCRCr_spec hk
    · rw [bc_eq] at hx
      split at hx
      · rename_i hf
        obtain rfl := Option.some.inj hx
        obtain rfl := Nat.eq_of_beq_eq_true hf
        exact repS_sound Tryz.strings_Repeat args H k hk
      · cases hx
theorem hS1 : SSound pg S1 := fun f x hx args H k hk => by
  unfold S1 at hx
  rw [bc_eq] at hx
  split at hx
  · rename_i hf
    obtain rfl := Option.some.inj hx
    obtain rfl := Nat.eq_of_beq_eq_true hf
    refine sumM_sound hX (callN_sound hX hS0 mixed 50) mixed (fun v hv => ?_) hk
    simp only [vsK, List.mem_cons, List.not_mem_nil, or_false] at hv
    rcases hv with rfl | rfl | rfl | rfl | rfl <;> exact ⟨_, _, rfl⟩
  · exact hS0 f x hx args H k hk
theorem hF1 (n : Nat) : FSound pg (callN pg X0 S1 n) := callN_sound hX hS1 mixed n
end Go.Proofs.YtmgbbnnjbgemdaaGreatDoor
