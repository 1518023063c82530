/- Law 45, directories: the reference's sums, CRC, numbers, tags: what they compute. -/
import Derived.Test.YtdjdiiibcocmpaaGreatDoorDirA
import Derived.Test.YtdjdiiibcocmpaaGreatDoorProg
import Derived.WalkKit
import Derived.WalkSpells
import Derived.WalkLawsBesides
import Derived.Lib.Strings
import Derived.Lib.Hide
namespace Go.Proofs.YtdjdiiibcocmpaaGreatDoor
open Go.RowKit
theorem ret_int {k : IntKind} {a b : Int} (h : a = b) : Ending.returned (.int k a) = .returned (.int k b) := by rw [h]
theorem take_snoc (s : ByteArray) (k : Nat) (h : k < s.size) : s.data.toList.take (k + 1) = s.data.toList.take k ++ [s[k]] := by
  rw [List.take_succ_eq_append_getElem (by simpa using h)]; rfl
theorem nb_get (s : ByteArray) (k : Nat) (h : k < s.size) : s[k].toNat = nb s.data.toList k := by
  have h' : k < s.data.toList.length := by simpa using h
  rw [nb, List.getD, List.getElem?_eq_getElem h']
  rfl
theorem len_data (s : ByteArray) : s.data.toList.length = s.size := by simp
theorem wrap_u8_id (n : Nat) (h : n < 256) : IntKind.u8.wrap (n : Int) = n := by rw [IntKind.wrap_u8']; omega
theorem wrap_u16_id (n : Nat) (h : n < 65536) : IntKind.u16.wrap (n : Int) = n := by rw [IntKind.wrap_u16]; omega
/-! Sum8. -/
set_option maxHeartbeats 400000 in
theorem r_sum8 (s : ByteArray) (w : World) (hs : s.size ≤ 65536) :
    Calls Tryz.prog 929 #[.string s] w fun e w' => e = .returned (.int .u8 (sum8 s.data.toList)) ∧ w' = w := by
  go_enter Tryz.func929, Tryz.ntmps929
  go_wp2
  go_loop [3, 4] (fun n i => ∃ k : Nat, k ≤ s.size ∧ i = .int .i64 k ∧ n = .int .i64 (sum8 (s.data.toList.take k))) (fun _ i => s.size - (intOf i).toNat)
  case atStart => exact ⟨0, Nat.zero_le _, rfl, rfl⟩
  case round =>
    obtain ⟨k, hk, rfl, rfl⟩ := hrel
    have hl := sum8_lt (s.data.toList.take k)
    by_cases hlt : k < s.size
    · have hb : s[k].toNat < 256 := UInt8.toNat_lt _
      have HS : Hid (((sum8 (s.data.toList.take (k + 1)) : Nat) : Int) = ((sum8 (s.data.toList.take k) : Nat) + (s[k].toNat : Int)) % 256) := by
        show _ = _
        rw [take_snoc s k hlt, sum8_snoc]; simp
      generalize sum8 (s.data.toList.take k) = q at *
      go_wp2
      go_round
      case rel => exact ⟨k + 1, by omega, by go_num, by rw [HS.out]⟩
      case measure => simp [intOf]; omega
    · have hkl : k = s.size := by omega
      subst hkl
      go_wp2
      go_ret
      exact ⟨ret_int (by rw [List.take_of_length_le (by simp)]), rfl⟩
/-! The CRC. -/
set_option maxHeartbeats 800000 in
theorem r_crc (s : ByteArray) (w : World) (hs : s.size ≤ 65536) :
    Calls Tryz.prog 827 #[.int .u16 0, .string s] w fun e w' => e = .returned (.int .u16 (crcOf s.data.toList)) ∧ w' = w := by
  go_enter Tryz.func827, Tryz.ntmps827
  go_wp2
  go_loop [0, 5] (fun c i => ∃ k : Nat, k ≤ s.size ∧ i = .int .i64 k ∧ c = .int .u16 (crcOf (s.data.toList.take k))) (fun _ i => s.size - (intOf i).toNat)
  case atStart => exact ⟨0, Nat.zero_le _, rfl, rfl⟩
  case round =>
    obtain ⟨k, hk, rfl, rfl⟩ := hrel
    have hl := crcOf_lt (s.data.toList.take k)
    by_cases hlt : k < s.size
    · have hb : s[k].toNat < 256 := UInt8.toNat_lt _
      have HS : Hid (crcOf (s.data.toList.take (k + 1)) = cbits 8 (crcOf (s.data.toList.take k) ^^^ (s[k].toNat * 256))) := by
        rw [take_snoc s k hlt, crcOf_snoc]; rfl
      generalize crcOf (s.data.toList.take k) = q at *
      have HX : Hid (bits .xor .u16 (q : Int) ((s[k].toNat : Int) * 256) = ((q ^^^ (s[k].toNat * 256) : Nat) : Int)) := by
        show _ = _
        rw [← u16_xor_nat q (s[k].toNat * 256) hl (by omega)]
        rfl
      have hx : q ^^^ (s[k].toNat * 256) < 65536 := xor_lt16 hl (by omega)
      generalize q ^^^ (s[k].toNat * 256) = x at *
      go_wp2
      go_loop [0, 6] (fun c j => ∃ m : Nat, m ≤ 8 ∧ j = .int .i64 m ∧ c = .int .u16 (cbits m x)) (fun _ j => 8 - (intOf j).toNat)
      case atStart => exact ⟨0, Nat.zero_le _, rfl, by rw [HX.out]; rfl⟩
      case round =>
        obtain ⟨m, hm, rfl, rfl⟩ := hrel
        have hy := cbits_lt m x hx
        by_cases hm8 : m < 8
        · have HM : Hid (cbits (m + 1) x = cbit (cbits m x)) := rfl
          generalize cbits m x = y at *
          by_cases h1 : 32768 ≤ y
          · have HC : Hid (bits .xor .u16 ((y : Int) % 32768 * 2) 4129 = ((cbit y : Nat) : Int)) := by
              show _ = _
              rw [show ((y : Int) % 32768 * 2) = ((y % 32768 * 2 : Nat) : Int) by omega, show (4129 : Int) = ((4129 : Nat) : Int) from rfl, u16_xor_nat _ _ (by omega) (by omega)]
              rw [cbit, if_pos (by omega)]
            go_wp2
            go_round
            case rel => exact ⟨m + 1, by omega, by go_num, by rw [HM.out, ← HC.out]⟩
            case measure => simp [intOf]; omega
          · have HC : Hid (((y : Int) % 32768 * 2) = ((cbit y : Nat) : Int)) := by
              show _ = _
              rw [cbit, if_neg (by omega)]; omega
            go_wp2
            go_round
            case rel => exact ⟨m + 1, by omega, by go_num, by rw [HM.out, ← HC.out]⟩
            case measure => simp [intOf]; omega
        · have hm' : m = 8 := by omega
          subst hm'
          go_wp2
          go_round
          case rel => exact ⟨k + 1, by omega, by go_num, by rw [HS.out]⟩
          case measure => simp [intOf]; omega
    · have hkl : k = s.size := by omega
      subst hkl
      go_wp2
      go_ret
      exact ⟨ret_int (by rw [List.take_of_length_le (by simp)]), rfl⟩
end Go.Proofs.YtdjdiiibcocmpaaGreatDoor
