/- Law 45, UdfcheckDirectories: plain definitions; walks of the reference: checksums, tags. -/
import Derived.WalkKit
import Derived.Laws.BitsAllLaws
import Derived.Test.YtmgbbnnjbgemdaaGreatDoorProg
import Derived.WalkSpells
import Derived.WalkLawsBesides
import Derived.Lib.Strings
import Derived.Lib.Hide
import Derived.Deep.QuietTactic
import Derived.BigQuiet
import Derived.Deep.DeepCutAuto
import Derived.Laws.AppendOwn
/- Law 45, directories: numbers in bytes, sums, the CRC bit by bit and by its table; no program. -/
namespace Go.Proofs.YtmgbbnnjbgemdaaGreatDoor
/-! The CRC. -/
/-- One bit. -/
def cbit (c : Nat) : Nat := if c / 32768 = 1 then (c % 32768 * 2) ^^^ 4129 else c % 32768 * 2
def cbits : Nat → Nat → Nat
  | 0, c => c
  | k + 1, c => cbit (cbits k c)
/-- One byte. -/
def cbyte (c : Nat) (b : UInt8) : Nat := cbits 8 (c ^^^ (b.toNat * 256))
def crcOf (l : List UInt8) : Nat := l.foldl cbyte 0
def vbit (v : BitVec 16) : BitVec 16 := (v <<< 1) ^^^ (if v.msb then 4129#16 else 0#16)
theorem vbit_xor (a b : BitVec 16) : vbit (a ^^^ b) = vbit a ^^^ vbit b := by
  have h : ∀ x y k : BitVec 16, (x ^^^ k) ^^^ (y ^^^ k) = x ^^^ y := fun x y k => by
    rw [show (x ^^^ k) ^^^ (y ^^^ k) = x ^^^ y ^^^ (k ^^^ k) by ac_rfl]; simp
  unfold vbit
  rw [BitVec.shiftLeft_xor_distrib, BitVec.msb_xor]
  generalize a <<< 1 = x
  generalize b <<< 1 = y
  cases a.msb <;> cases b.msb
  · show x ^^^ y ^^^ 0#16 = (x ^^^ 0#16) ^^^ (y ^^^ 0#16)
    simp
  · show x ^^^ y ^^^ 4129#16 = (x ^^^ 0#16) ^^^ (y ^^^ 4129#16)
    simp [BitVec.xor_assoc]
  · show x ^^^ y ^^^ 4129#16 = (x ^^^ 4129#16) ^^^ (y ^^^ 0#16)
    rw [BitVec.xor_zero]; ac_rfl
  · show x ^^^ y ^^^ 0#16 = (x ^^^ 4129#16) ^^^ (y ^^^ 4129#16)
    rw [BitVec.xor_zero]; exact (h x y _).symm
theorem cbit_vbit (v : BitVec 16) : cbit v.toNat = (vbit v).toNat := by
  unfold cbit vbit
  have hv := v.isLt
  by_cases h : v.toNat / 32768 = 1
  · have hm : v.msb = true := by rw [BitVec.msb_eq_decide]; simp; omega
    rw [if_pos h, hm]
    simp [BitVec.toNat_xor, BitVec.toNat_shiftLeft, Nat.shiftLeft_eq]
    congr 1
    omega
  · have hm : v.msb = false := by rw [BitVec.msb_eq_decide]; simp; omega
    rw [if_neg h, hm]
    simp [BitVec.toNat_shiftLeft, Nat.shiftLeft_eq]
    omega
theorem cbit_xor (a b : Nat) (ha : a < 65536) (hb : b < 65536) : cbit (a ^^^ b) = cbit a ^^^ cbit b := by
  have ea : a = (BitVec.ofNat 16 a).toNat := by simp; omega
  have eb : b = (BitVec.ofNat 16 b).toNat := by simp; omega
  rw [ea, eb, ← BitVec.toNat_xor, cbit_vbit, cbit_vbit, cbit_vbit, vbit_xor, BitVec.toNat_xor]
theorem cbit_lt (c : Nat) (h : c < 65536) : cbit c < 65536 := by
  have e : c = (BitVec.ofNat 16 c).toNat := by simp; omega
  rw [e, cbit_vbit]
  exact (vbit _).isLt
theorem cbits_lt (k c : Nat) (h : c < 65536) : cbits k c < 65536 := by
  induction k with
  | zero => exact h
  | succ k ih => exact cbit_lt _ ih
theorem xor_lt16 {a b : Nat} (ha : a < 65536) (hb : b < 65536) : a ^^^ b < 65536 := Nat.xor_lt_two_pow (n := 16) ha hb
theorem cbits_xor (k a b : Nat) (ha : a < 65536) (hb : b < 65536) : cbits k (a ^^^ b) = cbits k a ^^^ cbits k b := by
  induction k with
  | zero => rfl
  | succ k ih => rw [cbits, ih, cbit_xor _ _ (cbits_lt _ _ ha) (cbits_lt _ _ hb)]; rfl
theorem cbits_low : ∀ lo, lo < 256 → cbits 8 lo = lo * 256 := by decide +kernel
theorem split16 (c : Nat) : c = (c / 256 * 256) ^^^ (c % 256) := by
  have h : (c / 256 * 256) ^^^ (c % 256) = c / 256 * 256 + c % 256 := by
    have := Nat.two_pow_add_eq_or_of_lt (i := 8) (b := c % 256) (by omega) (c / 256)
    have h2 : (c / 256 * 256) &&& (c % 256) = 0 := by
      apply Nat.eq_of_testBit_eq
      intro i
      rw [Nat.testBit_and, Nat.zero_testBit]
      by_cases hi : i < 8
      · have : (c / 256 * 256).testBit i = false := by
          rw [show c / 256 * 256 = 2 ^ 8 * (c / 256) by omega, Nat.testBit_two_pow_mul]
          simp; omega
        rw [this]; rfl
      · have : (c % 256).testBit i = false := Nat.testBit_lt_two_pow (Nat.lt_of_lt_of_le (show c % 256 < 2 ^ 8 by omega) (Nat.pow_le_pow_right (by omega) (by omega)))
        rw [this, Bool.and_false]
    have h3 : (c / 256 * 256) ^^^ (c % 256) = (c / 256 * 256) ||| (c % 256) := by
      apply Nat.eq_of_testBit_eq
      intro i
      have := congrArg (Nat.testBit · i) h2
      simp only [Nat.testBit_and, Nat.zero_testBit] at this
      rw [Nat.testBit_xor, Nat.testBit_or]
      cases h4 : (c / 256 * 256).testBit i <;> cases h5 : (c % 256).testBit i <;> simp_all
    rw [h3, show c / 256 * 256 = 2 ^ 8 * (c / 256) by omega, ← this]
  rw [h]
  omega
theorem xor_mul (a b : Nat) : (a ^^^ b) * 256 = a * 256 ^^^ b * 256 := by
  have : (a ^^^ b) <<< 8 = a <<< 8 ^^^ b <<< 8 := Nat.shiftLeft_xor_distrib
  simpa [Nat.shiftLeft_eq] using this
/-- The table's way. -/
theorem cbyte_tab (c : Nat) (b : UInt8) (hc : c < 65536) : cbyte c b = (c * 256 % 65536) ^^^ cbits 8 (((c / 256) ^^^ b.toNat) * 256) := by
  have hb : b.toNat < 256 := b.toNat_lt
  have e : c ^^^ (b.toNat * 256) = (((c / 256) ^^^ b.toNat) * 256) ^^^ (c % 256) := by
    rw [xor_mul]
    conv => lhs; rw [split16 c]
    rw [Nat.xor_assoc, Nat.xor_assoc, Nat.xor_comm (c % 256)]
  have h1 : ((c / 256) ^^^ b.toNat) < 256 := Nat.xor_lt_two_pow (n := 8) (by omega) hb
  rw [cbyte, e, cbits_xor 8 (((c / 256) ^^^ b.toNat) * 256) (c % 256) (by omega) (by omega), cbits_low (c % 256) (by omega), Nat.xor_comm]
  congr 1
  omega
theorem cbyte_lt (c : Nat) (b : UInt8) (hc : c < 65536) : cbyte c b < 65536 := cbits_lt _ _ (xor_lt16 hc (by have := b.toNat_lt; omega))
/-! Numbers. -/
def nb (l : List UInt8) (i : Nat) : Nat := (l.getD i 0).toNat
theorem nb_lt (l : List UInt8) (i : Nat) : nb l i < 256 := UInt8.toNat_lt _
def num (l : List UInt8) (i : Nat) : Nat → Nat
  | 0 => 0
  | n + 1 => nb l i + 256 * num l (i + 1) n
theorem num_lt (l : List UInt8) (i n : Nat) : num l i n < 256 ^ n := by
  induction n generalizing i with
  | zero => simp [num]
  | succ n ih => have := ih (i + 1); have := nb_lt l i; rw [num, Nat.pow_succ]; omega
theorem num1 (l : List UInt8) (i : Nat) : num l i 1 = nb l i := by simp [num]
theorem num2 (l : List UInt8) (i : Nat) : num l i 2 = nb l i + 256 * nb l (i + 1) := by simp [num]
theorem num4 (l : List UInt8) (i : Nat) : num l i 4 = nb l i + 256 * nb l (i + 1) + 65536 * nb l (i + 2) + 16777216 * nb l (i + 3) := by
  show nb l i + 256 * (nb l (i + 1) + 256 * (nb l (i + 2) + 256 * (nb l (i + 3) + 256 * 0))) = _
  omega
/-! Sums. -/
def sum8 (l : List UInt8) : Nat := l.foldl (fun n c => (n + c.toNat) % 256) 0
theorem sum8_snoc (l : List UInt8) (c : UInt8) : sum8 (l ++ [c]) = (sum8 l + c.toNat) % 256 := by simp [sum8]
theorem sum8_lt (l : List UInt8) : sum8 l < 256 := by
  rcases List.eq_nil_or_concat l with rfl | ⟨l', c, rfl⟩
  · decide
  · rw [List.concat_eq_append, sum8_snoc]; omega
theorem crcOf_snoc (l : List UInt8) (c : UInt8) : crcOf (l ++ [c]) = cbyte (crcOf l) c := by simp [crcOf]
theorem crcOf_lt (l : List UInt8) : crcOf l < 65536 := by
  have h : ∀ (l : List UInt8) (c : Nat), c < 65536 → l.foldl cbyte c < 65536 := fun l => by
    induction l with
    | nil => exact fun c hc => hc
    | cons b l ih => exact fun c hc => ih _ (cbyte_lt c b hc)
  exact h l 0 (by omega)
/-! Descriptors. -/
/-- A tag without faults. -/
def tagFine (l : List UInt8) (loc : Int) : Bool :=
  ((decide (nb l 4 = sum8 (l.take 4 ++ (l.drop 5).take 11)) && (decide (num l 2 2 = 2) || decide (num l 2 2 = 3))) && (decide (num l 10 2 ≤ l.length - 16) && decide (num l 8 2 = crcOf ((l.drop 16).take (num l 10 2))))) && decide ((num l 12 4 : Int) = loc)
/-- A string begins with a descriptor without faults, of an identifier. -/
def tagOK (l : List UInt8) (ident : Nat) (loc : Int) : Bool := (decide (16 ≤ l.length) && tagFine l loc) && decide (num l 0 2 = ident)
/-- A number is a character. -/
def isChar (n : Nat) : Bool := decide (32 ≤ n) && (decide (n ≤ 65533) && (decide (n < 55296) || decide (57343 < n)))
/-- The characters of compressed Unicode, of one byte each, of two. -/
def chars1 : List UInt8 → Option (List Nat)
  | [] => some []
  | b :: l => if isChar b.toNat then (chars1 l).map (b.toNat :: ·) else none
def chars2 : List UInt8 → Option (List Nat)
  | [] => some []
  | [_] => none
  | a :: b :: l => if isChar (a.toNat * 256 + b.toNat) then (chars2 l).map ((a.toNat * 256 + b.toNat) :: ·) else none
def chars : List UInt8 → Option (List Nat)
  | [] => some []
  | h :: l => if h = 8 then chars1 l else if h = 16 then chars2 l else none
/-- UTF-8. -/
def enc (n : Nat) : List UInt8 :=
  if n < 128 then [UInt8.ofNat n] else if n < 2048 then [UInt8.ofNat (192 + n / 64), UInt8.ofNat (128 + n % 64)] else [UInt8.ofNat (224 + n / 4096), UInt8.ofNat (128 + n / 64 % 64), UInt8.ofNat (128 + n % 64)]
def encs (l : List Nat) : List UInt8 := l.flatMap enc
/-- An entry of a directory. -/
structure FidS where
  cs : List Nat
  block : Nat
  part : Nat
  unique : Nat
  c : Nat
def FidS.name (f : FidS) : List UInt8 := encs f.cs
def FidS.hidden (f : FidS) : Bool := decide (f.c % 2 = 1)
def FidS.directory (f : FidS) : Bool := decide (f.c / 2 % 2 = 1)
def FidS.deleted (f : FidS) : Bool := decide (f.c / 4 % 2 = 1)
def FidS.parent (f : FidS) : Bool := decide (f.c / 8 % 2 = 1)
def FidS.metadata (f : FidS) : Bool := decide (f.c / 16 % 2 = 1)
def rounded (n : Nat) : Nat := (n + 3) / 4 * 4
/-- The entry is valid. -/
def FidS.entry (f : FidS) : Bool := if f.parent then f.directory && f.cs.isEmpty else !f.cs.isEmpty
/-- The descriptor at the beginning of a string. -/
def fidAt (l : List UInt8) (loc : Int) : Option (FidS × Nat) :=
  if tagOK l 257 loc && decide (38 ≤ l.length) then
    let n := nb l 19
    let at_ := 38 + num l 36 2
    if rounded (at_ + n) ≤ l.length then
      match chars ((l.drop at_).take n) with
      | none => none
      | some cs => let f : FidS := ⟨cs, num l 24 4, num l 28 2, num l 32 4, nb l 18⟩; if f.entry then some (f, rounded (at_ + n)) else none
    else none
  else none
/-- A name. -/
def goodName (f : FidS) : Bool := decide (f.name ≠ [46]) && (decide (f.name ≠ [46, 46]) && (!f.name.contains 47 && (decide (1 ≤ f.cs.length) && decide (f.cs.length ≤ 64))))
/-- What is wrong with an entry of a directory. -/
def wrong (f : FidS) (at_ : Nat) (seen : List (List UInt8)) : Bool := (f.parent != decide (at_ = 0)) || ((!f.deleted && !f.parent) && (!goodName f || seen.contains f.name))
/-- The findings' offsets. -/
def offs (d : List UInt8) (blocks : List Int) : Nat → Nat → List (List UInt8) → List Nat
  | 0, _, _ => []
  | fuel + 1, at_, seen =>
    if at_ < d.length then
      match blocks[at_ / 2048]? with
      | none => [at_]
      | some b =>
        match fidAt (d.drop at_) b with
        | none => [at_]
        | some (f, n) => (if wrong f at_ seen then [at_] else []) ++ offs d blocks fuel (at_ + n) (if !f.deleted && !f.parent then f.name :: seen else seen)
    else []
end Go.Proofs.YtmgbbnnjbgemdaaGreatDoor

/- Law 45, directories: the reference's sums, CRC, numbers, tags: what they compute. -/
namespace Go.Proofs.YtmgbbnnjbgemdaaGreatDoor
open Go.RowKit
theorem ret_int {k : IntKind} {a b : Int} (h : a = b) : Ending.returned (.int k a) = .returned (.int k b) := by rw [h]
theorem take_snoc (s : ByteArray) (k : Nat) (h : k < s.size) : s.data.toList.take (k + 1) = s.data.toList.take k ++ [s[k]] := by
  rw [List.take_succ_eq_append_getElem (by simpa using h)]; rfl
theorem nb_get (s : ByteArray) (k : Nat) (h : k < s.size) : s[k].toNat = nb s.data.toList k := by
  have h' : k < s.data.toList.length := by simpa using h
  rw [nb, List.getD, List.getElem?_eq_getElem h']
  rfl
theorem len_data (s : ByteArray) : s.data.toList.length = s.size := by simp
theorem wrap_u8_id (n : Nat) (h : n < 256) : IntKind.u8.wrap (n : Int) = n := by rw [IntKind.wrap_u8']; omega
theorem wrap_u16_id (n : Nat) (h : n < 65536) : IntKind.u16.wrap (n : Int) = n := by rw [IntKind.wrap_u16]; omega
/-! Sum8. -/
set_option maxHeartbeats 400000 in
theorem r_sum8 (s : ByteArray) (w : World) (hs : s.size ≤ 65536) :
    Calls Tryz.prog 375 #[.string s] w fun e w' => e = .returned (.int .u8 (sum8 s.data.toList)) ∧ w' = w := by
  go_enter Tryz.func375, Tryz.ntmps375
  go_wp2
  go_loop [3, 4] (fun n i => ∃ k : Nat, k ≤ s.size ∧ i = .int .i64 k ∧ n = .int .i64 (sum8 (s.data.toList.take k))) (fun _ i => s.size - (intOf i).toNat)
  case atStart => exact ⟨0, Nat.zero_le _, rfl, rfl⟩
  case round =>
    obtain ⟨k, hk, rfl, rfl⟩ := hrel
    have hl := sum8_lt (s.data.toList.take k)
    by_cases hlt : k < s.size
    · have hb : s[k].toNat < 256 := UInt8.toNat_lt _
      have HS : Hid (((sum8 (s.data.toList.take (k + 1)) : Nat) : Int) = ((sum8 (s.data.toList.take k) : Nat) + (s[k].toNat : Int)) % 256) := by
        show _ = _
        rw [take_snoc s k hlt, sum8_snoc]; simp
      generalize sum8 (s.data.toList.take k) = q at *
      go_wp2
      go_round
      case rel => exact ⟨k + 1, by omega, by go_num, by rw [HS.out]⟩
      case measure => simp [intOf]; omega
    · have hkl : k = s.size := by omega
      subst hkl
      go_wp2
      go_ret
      exact ⟨ret_int (by rw [List.take_of_length_le (by simp)]), rfl⟩
/-! The CRC. -/
set_option maxHeartbeats 800000 in
theorem r_crc (s : ByteArray) (w : World) (hs : s.size ≤ 65536) :
    Calls Tryz.prog 376 #[.int .u16 0, .string s] w fun e w' => e = .returned (.int .u16 (crcOf s.data.toList)) ∧ w' = w := by
  go_enter Tryz.func376, Tryz.ntmps376
  go_wp2
  go_loop [0, 5] (fun c i => ∃ k : Nat, k ≤ s.size ∧ i = .int .i64 k ∧ c = .int .u16 (crcOf (s.data.toList.take k))) (fun _ i => s.size - (intOf i).toNat)
  case atStart => exact ⟨0, Nat.zero_le _, rfl, rfl⟩
  case round =>
    obtain ⟨k, hk, rfl, rfl⟩ := hrel
    have hl := crcOf_lt (s.data.toList.take k)
    by_cases hlt : k < s.size
    · have hb : s[k].toNat < 256 := UInt8.toNat_lt _
      have HS : Hid (crcOf (s.data.toList.take (k + 1)) = cbits 8 (crcOf (s.data.toList.take k) ^^^ (s[k].toNat * 256))) := by
        rw [take_snoc s k hlt, crcOf_snoc]; rfl
      generalize crcOf (s.data.toList.take k) = q at *
      have HX : Hid (bits .xor .u16 (q : Int) ((s[k].toNat : Int) * 256) = ((q ^^^ (s[k].toNat * 256) : Nat) : Int)) := by
        show _ = _
        rw [← u16_xor_nat q (s[k].toNat * 256) hl (by omega)]
        rfl
      have hx : q ^^^ (s[k].toNat * 256) < 65536 := xor_lt16 hl (by omega)
      generalize q ^^^ (s[k].toNat * 256) = x at *
      go_wp2
      go_loop [0, 6] (fun c j => ∃ m : Nat, m ≤ 8 ∧ j = .int .i64 m ∧ c = .int .u16 (cbits m x)) (fun _ j => 8 - (intOf j).toNat)
      case atStart => exact ⟨0, Nat.zero_le _, rfl, by rw [HX.out]; rfl⟩
      case round =>
        obtain ⟨m, hm, rfl, rfl⟩ := hrel
        have hy := cbits_lt m x hx
        by_cases hm8 : m < 8
        · have HM : Hid (cbits (m + 1) x = cbit (cbits m x)) := rfl
          generalize cbits m x = y at *
          by_cases h1 : 32768 ≤ y
          · have HC : Hid (bits .xor .u16 ((y : Int) % 32768 * 2) 4129 = ((cbit y : Nat) : Int)) := by
              show _ = _
              rw [show ((y : Int) % 32768 * 2) = ((y % 32768 * 2 : Nat) : Int) by omega, show (4129 : Int) = ((4129 : Nat) : Int) from rfl, u16_xor_nat _ _ (by omega) (by omega)]
              rw [cbit, if_pos (by omega)]
            go_wp2
            go_round
            case rel => exact ⟨m + 1, by omega, by go_num, by rw [HM.out, ← HC.out]⟩
            case measure => simp [intOf]; omega
          · have HC : Hid (((y : Int) % 32768 * 2) = ((cbit y : Nat) : Int)) := by
              show _ = _
              rw [cbit, if_neg (by omega)]; omega
            go_wp2
            go_round
            case rel => exact ⟨m + 1, by omega, by go_num, by rw [HM.out, ← HC.out]⟩
            case measure => simp [intOf]; omega
        · have hm' : m = 8 := by omega
          subst hm'
          go_wp2
          go_round
          case rel => exact ⟨k + 1, by omega, by go_num, by rw [HS.out]⟩
          case measure => simp [intOf]; omega
    · have hkl : k = s.size := by omega
      subst hkl
      go_wp2
      go_ret
      exact ⟨ret_int (by rw [List.take_of_length_le (by simp)]), rfl⟩
end Go.Proofs.YtmgbbnnjbgemdaaGreatDoor

/- Law 45, directories: the reference's CRC16, numbers, sums of tags. -/
namespace Go.Proofs.YtmgbbnnjbgemdaaGreatDoor
open Go.RowKit
theorem r_crc16 (s : ByteArray) (w : World) (hs : s.size ≤ 65536) :
    Calls Tryz.prog 218 #[.string s] w fun e w' => e = .returned (.int .u16 (crcOf s.data.toList)) ∧ w' = w := by
  go_enter Tryz.func218, Tryz.ntmps218
  go_wp2_with fail
  refine (r_crc s w hs).mono ?_
  rintro e w' ⟨rfl, rfl⟩
  go_wp2
  go_ret
  exact ⟨rfl, rfl⟩
theorem num_step (l : List UInt8) (i n k : Nat) (h : k < n) : num l (i + k) (n - k) = nb l (i + k) + 256 * num l (i + (k + 1)) (n - (k + 1)) := by
  obtain ⟨m, rfl⟩ : ∃ m, n = k + 1 + m := ⟨n - (k + 1), by omega⟩
  rw [show k + 1 + m - k = m + 1 by omega, show k + 1 + m - (k + 1) = m by omega]
  rfl
set_option maxHeartbeats 400000 in
theorem r_num (s : ByteArray) (i n : Nat) (w : World) (hn : n ≤ 4) (h : i + n ≤ s.size) (hs : s.size ≤ 65536) :
    Calls Tryz.prog 49 #[.string s, .int .i64 i, .int .i64 n] w fun e w' => e = .returned (.int .i64 (num s.data.toList i n)) ∧ w' = w := by
  go_enter Tryz.func49, Tryz.ntmps49
  go_wp2
  go_loop [7, 8] (fun v j => ∃ k : Nat, k ≤ n ∧ j = .int .i64 ((k : Int) - 1) ∧ v = .int .i64 (num s.data.toList (i + k) (n - k))) (fun _ j => (intOf j + 1).toNat)
  case atStart => exact ⟨n, Nat.le_refl _, rfl, by simp [num]⟩
  case round =>
    obtain ⟨k, hk, rfl, rfl⟩ := hrel
    by_cases h0 : k = 0
    · subst h0
      go_wp2
      go_ret
      exact ⟨ret_int (by simp), rfl⟩
    · obtain ⟨k, rfl⟩ : ∃ k', k = k' + 1 := ⟨k - 1, by omega⟩
      have hb := nb_lt s.data.toList (i + k)
      have hst := num_step s.data.toList i n k (by omega)
      have hg : s[i + k].toNat = nb s.data.toList (i + k) := nb_get s (i + k) (by omega)
      have hl := num_lt s.data.toList (i + (k + 1)) (n - (k + 1))
      have hp : 256 ^ (n - (k + 1)) ≤ 256 ^ 3 := Nat.pow_le_pow_right (by omega) (by omega)
      have HS := Lib.hid hst
      have HG := Lib.hid hg
      clear hst hg
      generalize num s.data.toList (i + (k + 1)) (n - (k + 1)) = v at *
      have hv : v < 16777216 := by omega
      clear hl hp
      have hb2 : s[i + k].toNat < 256 := UInt8.toNat_lt _
      go_wp2
      go_round
      case rel => exact ⟨k, by omega, rfl, by rw [HS.out, ← HG.out]; first | rfl | (congr 1; omega)⟩
      case measure => simp [intOf]
theorem cut_data (s : ByteArray) (a b : Nat) : (s.extract a b).data.toList = (s.data.toList.drop a).take (b - a) := Lib.extract_data s a b
theorem sum_cut (s : ByteArray) : (s.extract 0 4 ++ s.extract 5 16).data.toList = s.data.toList.take 4 ++ (s.data.toList.drop 5).take 11 := by
  rw [ByteArray.data_append, Array.toList_append, cut_data, cut_data]
  rfl
theorem sum_cut_size (s : ByteArray) (h : 16 ≤ s.size) : (s.extract 0 4 ++ s.extract 5 16).size = 15 := by
  rw [← len_data, sum_cut s]; simp; omega
set_option maxHeartbeats 400000 in
theorem r_sum (s : ByteArray) (w : World) (h : 16 ≤ s.size) (hs : s.size ≤ 65536) :
    Calls Tryz.prog 217 #[.string s] w fun e w' => e = .returned (.int .u8 (sum8 (s.data.toList.take 4 ++ (s.data.toList.drop 5).take 11))) ∧ ∃ n, w' = w.drewN n := by
  have hc := sum_cut s
  have hz := sum_cut_size s h
  rw [← hc]
  clear hc
  go_enter Tryz.func217, Tryz.ntmps217
  go_wp2
  go_quiet ((go_at_call 375; exact Calls.quiet_of_same (r_sum8 _ _ (by rw [hz]; omega))))
  go_wp2
  go_ret
  exact ⟨rfl, _, rfl⟩
end Go.Proofs.YtmgbbnnjbgemdaaGreatDoor

/- Law 45, directories: the reference's faults of a tag. -/
namespace Go.Proofs.YtmgbbnnjbgemdaaGreatDoor
open Go.RowKit
theorem info_int : (Tryz.prog.info? 3).map (fun i => (i.zero, i.size, i.bytes)) = some (some (.int .i64 0), 1, 8) := by kernel_rfl
theorem new_one (W : World) (g : Nat) (v : Value) (e : TypeId) (h : g = W.heap.size) : (W.alloc (.cells #[v] e)).cell? (({ block := g, off := 0 } : Addr).add 0) = some v := by
  subst h
  show (W.alloc (.cells #[v] e)).cell? ⟨W.heap.size, 0, none⟩ = some v
  rw [World.cell?_alloc_at _ _ _ _ rfl]
  rfl
/-- A list of faults of the call's own: empty or not. -/
def FRel (k : Nat) (w : World) (ok : Bool) (v : Value) (wx : World) : Prop := ∃ (n : Nat) (xs : List Value), wx.ownsRow w.heap.size 3 1 v n xs ∧ n ≤ k ∧ decide (n = 0) = ok ∧ Below w.heap.size w wx
theorem below_drewN {B : Nat} {a w : World} (h : Below B a w) (n : Nat) : Below B a (w.drewN n) := ⟨h.os, h.tape, h.output, h.size, h.block⟩
theorem FRel.push {k : Nat} {w W w' : World} {v v' : Value} {n : Nat} {xs ys : List Value} (hb : Below w.heap.size w W) (hown : W.ownsRow w.heap.size 3 1 v n xs) (hn : n ≤ k) (hown' : w'.ownsRow w.heap.size 3 1 v' (n + 1) ys)
    (hg : W.grownBy w' v.ownBlock) : FRel (k + 1) w false v' w' := ⟨n + 1, ys, hown', by omega, by simp, hb.grown hg hb.size (fun j hj => (hown.lt j hj).1)⟩
set_option maxHeartbeats 1600000 in
set_option maxRecDepth 1000000 in
theorem r_faults (s : ByteArray) (loc : Int) (w : World) (h : 16 ≤ s.size) (hs : s.size ≤ 65536) :
    Calls Tryz.prog 112 #[.string s, .int .i64 loc] w fun e w' => ∃ v, e = .returned v ∧ FRel 4 w (tagFine s.data.toList loc) v w' := by
  obtain ⟨i0, hi, hz0, hz1, hz2⟩ := info_parts info_int
  have hsum := fun (W : World) => r_sum s W h hs
  have hsl := sum8_lt (s.data.toList.take 4 ++ (s.data.toList.drop 5).take 11)
  have hg : s[4].toNat = nb s.data.toList 4 := nb_get s 4 (by omega)
  generalize hq : sum8 (s.data.toList.take 4 ++ (s.data.toList.drop 5).take 11) = q at *
  have HQ := Lib.hid hq
  have HG := Lib.hid hg
  have HSum := Lib.hid hsum
  clear hq hg hsum
  have hb4 : s[4].toNat < 256 := UInt8.toNat_lt _
  have hi4 : (4 : Int) < (s.size : Int) := by omega
  have hj4 : 4 < s.size := by omega
  go_enter Tryz.func112, Tryz.ntmps112
  go_wp2
  go_quiet ((go_at_call 217; exact Calls.quiet_of (HSum.out _)))
  have own0 : ∀ k : Nat, ((w.alloc (.cells #[] 3)).drewN k).ownsRow w.heap.size 3 1 (.slice (some ⟨w.heap.size, 0, none⟩) 0 0) 0 [] := fun k => World.ownsRow_lit _ _ 0 (Nat.le_refl _) (by decide) rfl
  have bel0 : ∀ k : Nat, Below w.heap.size w ((w.alloc (.cells #[] 3)).drewN k) := fun k => below_drewN ((Below.refl _ _).alloc (Nat.le_refl _) _) k
  go_upto_if 17 with (fail)
  go_cut [5] (fun s5 wx => FRel 1 w (decide (s[4].toNat = q)) s5 wx)
  case first =>
    by_cases hq4 : s[4].toNat = q
    · have hB : ((s[4].toNat : Int) != (q : Int)) = false := by rw [bne_eq_false_iff_eq]; omega
      have hD : decide (s[4].toNat = q) = true := by simp [hq4]
      have HD := Lib.hid hD
      clear hD hq4
      go_wp2
      go_meet
      case rel => rw [HD.out]; exact ⟨0, [], own0 _, by omega, rfl, bel0 _⟩
    · have hB : ((s[4].toNat : Int) != (q : Int)) = true := by rw [bne_iff_ne]; omega
      have hD : decide (s[4].toNat = q) = false := by simp [hq4]
      have HD := Lib.hid hD
      clear hD hq4
      go_wp2_with (first
        | (at_builtin; refine wpList_append_own _ rfl _ _ 22 rfl w.heap.size 3 i0 (.int .i64 0) 1 8 Tryz.underlying22 hi hz0 hz1 hz2 rfl (by decide) _ _ _ rfl ((own0 _).alloc _) ⟨w.heap.size + 1, 0, none⟩ 1 1 [.int .i64 2] rfl rfl ?_ ?_ ?_ ?_ ?_ ?_)
        | go_in)
      · intro j u hj
        match j, hj with
        | 0, hj => simp at hj; subst hj; exact new_one _ _ _ _ (by show _ = (w.alloc _).heap.size; simp)
      · intro u hu; simp at hu; subst hu; rfl
      · unfold maxLen; omega
      · omega
      · exact ((bel0 _).alloc (bel0 _).size _).size
      · intro v' w' hown' hgrow _
        have hout : FRel 1 w false v' w' := FRel.push ((bel0 _).alloc (bel0 _).size _) ((own0 _).alloc _) (Nat.le_refl _) hown' hgrow
        clear hown' hgrow
        go_wp2
        go_meet
        case rel => rw [HD.out]; exact hout
  case rest =>
    obtain ⟨n, xs, own, hn, hnb, hb⟩ := hcut
    have hnum := fun (i m : Nat) (hm : m ≤ 4) (him : i + m ≤ s.size) (W : World) => r_num s i m W hm him hs
    have HN := Lib.hid hnum
    have HNB := Lib.hid hnb
    clear hnum hnb
    go_wp2_with fail
    refine (HN.out 2 2 (by omega) (by omega) _).mono ?_
    rintro e wb ⟨rfl, rfl⟩
    have hv2 := num_lt s.data.toList 2 2
    generalize hv : num s.data.toList 2 2 = v2 at *
    go_upto_region 7 with (fail)
    go_cut [28] (fun s28 wx => s28 = .bool (!(decide (v2 = 2) || decide (v2 = 3))) ∧ wx = wb)
    case first =>
      by_cases h2 : v2 = 2
      · subst h2
        go_wp2
        go_meet
        case rel => exact ⟨rfl, rfl⟩
      · by_cases h3 : v2 = 3
        · subst h3
          go_wp2
          go_meet
          case rel => exact ⟨rfl, rfl⟩
        · go_wp2
          go_meet
          case rel =>
            refine ⟨?_, rfl⟩
            congr 1
            rw [Bool.eq_iff_iff]
            simp
            omega
    case rest =>
      obtain ⟨rfl, hwc⟩ := hcut
      subst hwc
      have HV2 := Lib.hid hv
      clear hv hv2
      generalize hb2 : (decide (v2 = 2) || decide (v2 = 3)) = b2 at *
      have HB2 := Lib.hid hb2
      clear hb2
      go_upto_if 28 with (fail)
      go_cut [5] (fun s5 wx => FRel 2 w (decide (s[4].toNat = q) && b2) s5 wx)
      case first =>
        cases b2
        · go_wp2_with (first
            | (at_builtin; refine wpList_append_own _ rfl _ _ 22 rfl w.heap.size 3 i0 (.int .i64 0) 1 8 Tryz.underlying22 hi hz0 hz1 hz2 rfl (by decide) _ _ _ rfl (own.alloc _) ⟨wc.heap.size, 0, none⟩ 1 1 [.int .i64 3] rfl rfl ?_ ?_ ?_ ?_ ?_ ?_)
            | go_in)
          · intro j u hj
            match j, hj with
            | 0, hj => simp at hj; subst hj; exact new_one _ _ _ _ rfl
          · intro u hu; simp at hu; subst hu; rfl
          · unfold maxLen; omega
          · omega
          · exact (hb.alloc hb.size _).size
          · intro v' w' hown' hgrow _
            have hout := FRel.push (hb.alloc hb.size _) (own.alloc _) hn hown' hgrow
            clear hown' hgrow
            go_wp2
            go_meet
            case rel => rw [Bool.and_false]; exact hout
        · go_wp2
          go_meet
          case rel => rw [Bool.and_true, ← HNB.out]; exact ⟨n, xs, own, by omega, rfl, hb⟩
      case rest =>
        clear own hn HNB hb
        obtain ⟨n1, xs1, own1, hn1, hnb1, hb1⟩ := hcut
        have HNB1 := Lib.hid hnb1
        clear hnb1
        generalize hok1 : (decide (s[4].toNat = q) && b2) = ok1 at *
        have HOK1 := Lib.hid hok1
        clear hok1
        go_wp2_with fail
        refine (HN.out 10 2 (by omega) (by omega) _).mono ?_
        rintro e wd ⟨rfl, rfl⟩
        have hln := num_lt s.data.toList 10 2
        generalize hl0 : num s.data.toList 10 2 = ln at *
        have HL := Lib.hid hl0
        clear hl0
        have hln' : ln < 65536 := by omega
        clear hln
        have h8 := num_lt s.data.toList 8 2
        have HN8 := Lib.hid (HN.out 8 2 (by omega) (by omega))
        generalize hn8 : num s.data.toList 8 2 = n8 at *
        have H8 := Lib.hid hn8
        clear hn8
        generalize hcr : crcOf ((s.data.toList.drop 16).take ln) = cr at *
        have HCr := Lib.hid hcr
        clear hcr
        generalize hb3 : (decide (ln ≤ s.size - 16) && decide (n8 = cr)) = b3 at *
        have HB3 := Lib.hid hb3
        clear hb3
        go_upto_if 38 with (fail)
        go_cut [5] (fun s5 wx => FRel 3 w (ok1 && b3) s5 wx)
        case first =>
          by_cases hle : 16 + ln ≤ s.size
          · have hd : decide (ln ≤ s.size - 16) = true := by simp; omega
            have hcd : (s.extract 16 (16 + ln)).data.toList = (s.data.toList.drop 16).take ln := by rw [cut_data]; congr 1; omega
            have hcz : (s.extract 16 (16 + ln)).size = ln := by rw [← len_data, hcd]; simp; omega
            have HCRC := Lib.hid (fun W => r_crc16 (s.extract 16 (16 + ln)) W (by rw [hcz]; omega))
            rw [hcd, HCr.out] at HCRC
            have hcl : cr < 65536 := by rw [← HCr.out]; exact crcOf_lt _
            clear hcz hcd
            have hi16 : (16 : Int) + (ln : Int) ≤ (s.size : Int) := by omega
            by_cases h8c : n8 = cr
            · have hB : b3 = true := by rw [← HB3.out, hd, h8c]; simp
              subst hB
              clear hd
              subst h8c
              go_wp2_with fail
              refine (HCRC.out _).mono ?_
              rintro e we ⟨rfl, rfl⟩
              go_wp2_with fail
              refine (HN8.out _).mono ?_
              rintro e wf ⟨rfl, rfl⟩
              go_wp2
              go_meet
              case rel => rw [Bool.and_true, ← HNB1.out]; exact ⟨n1, xs1, own1, by omega, rfl, hb1⟩
            · have hB : b3 = false := by rw [← HB3.out]; simp [h8c]
              subst hB
              clear hd
              have hNe : ((cr : Int) != (n8 : Int)) = true := by rw [bne_iff_ne]; omega
              clear h8c
              go_wp2_with fail
              refine (HCRC.out _).mono ?_
              rintro e we ⟨rfl, rfl⟩
              go_wp2_with fail
              refine (HN8.out _).mono ?_
              rintro e wf ⟨rfl, rfl⟩
              go_wp2_with (first
                | (at_builtin; refine wpList_append_own _ rfl _ _ 22 rfl w.heap.size 3 i0 (.int .i64 0) 1 8 Tryz.underlying22 hi hz0 hz1 hz2 rfl (by decide) _ _ _ rfl (own1.alloc _) ⟨wf.heap.size, 0, none⟩ 1 1 [.int .i64 5] rfl rfl ?_ ?_ ?_ ?_ ?_ ?_)
                | go_in)
              · intro j u hj
                match j, hj with
                | 0, hj => simp at hj; subst hj; exact new_one _ _ _ _ rfl
              · intro u hu; simp at hu; subst hu; rfl
              · unfold maxLen; omega
              · omega
              · exact (hb1.alloc hb1.size _).size
              · intro v' w' hown' hgrow _
                have hout := FRel.push (hb1.alloc hb1.size _) (own1.alloc _) hn1 hown' hgrow
                clear hown' hgrow
                go_wp2
                go_meet
                case rel => rw [Bool.and_false]; exact hout
          · have hB : b3 = false := by rw [← HB3.out]; simp; omega
            subst hB
            go_wp2_with (first
              | (at_builtin; refine wpList_append_own _ rfl _ _ 22 rfl w.heap.size 3 i0 (.int .i64 0) 1 8 Tryz.underlying22 hi hz0 hz1 hz2 rfl (by decide) _ _ _ rfl (own1.alloc _) ⟨wd.heap.size, 0, none⟩ 1 1 [.int .i64 4] rfl rfl ?_ ?_ ?_ ?_ ?_ ?_)
              | go_in)
            · intro j u hj
              match j, hj with
              | 0, hj => simp at hj; subst hj; exact new_one _ _ _ _ rfl
            · intro u hu; simp at hu; subst hu; rfl
            · unfold maxLen; omega
            · omega
            · exact (hb1.alloc hb1.size _).size
            · intro v' w' hown' hgrow _
              have hout := FRel.push (hb1.alloc hb1.size _) (own1.alloc _) hn1 hown' hgrow
              clear hown' hgrow
              go_wp2
              go_meet
              case rel => rw [Bool.and_false]; exact hout
        case rest =>
          clear own1 hn1 HNB1 hb1
          obtain ⟨n2, xs2, own2, hn2, hnb2, hb2⟩ := hcut
          have HNB2 := Lib.hid hnb2
          clear hnb2
          generalize hok2 : (ok1 && b3) = ok2 at *
          have HOK2 := Lib.hid hok2
          clear hok2
          go_wp2_with fail
          refine (HN.out 12 4 (by omega) (by omega) _).mono ?_
          rintro e wg ⟨rfl, rfl⟩
          have hl12 := num_lt s.data.toList 12 4
          generalize hn12 : num s.data.toList 12 4 = n12 at *
          have HN12 := Lib.hid hn12
          clear hn12
          go_upto_if 57 with (fail)
          go_cut [5] (fun s5 wx => FRel 4 w (ok2 && decide ((n12 : Int) = loc)) s5 wx)
          case first =>
            by_cases hlc : (n12 : Int) = loc
            · have hB : ((n12 : Int) != loc) = false := by rw [bne_eq_false_iff_eq]; exact hlc
              have hD := Lib.hid (show decide ((n12 : Int) = loc) = true by simp [hlc])
              clear hlc
              go_wp2
              go_meet
              case rel => rw [hD.out, Bool.and_true, ← HNB2.out]; exact ⟨n2, xs2, own2, by omega, rfl, hb2⟩
            · have hB : ((n12 : Int) != loc) = true := by rw [bne_iff_ne]; exact hlc
              have hD := Lib.hid (show decide ((n12 : Int) = loc) = false by simp [hlc])
              clear hlc
              go_wp2_with (first
                | (at_builtin; refine wpList_append_own _ rfl _ _ 22 rfl w.heap.size 3 i0 (.int .i64 0) 1 8 Tryz.underlying22 hi hz0 hz1 hz2 rfl (by decide) _ _ _ rfl (own2.alloc _) ⟨wg.heap.size, 0, none⟩ 1 1 [.int .i64 6] rfl rfl ?_ ?_ ?_ ?_ ?_ ?_)
                | go_in)
              · intro j u hj
                match j, hj with
                | 0, hj => simp at hj; subst hj; exact new_one _ _ _ _ rfl
              · intro u hu; simp at hu; subst hu; rfl
              · unfold maxLen; omega
              · omega
              · exact (hb2.alloc hb2.size _).size
              · intro v' w' hown' hgrow _
                have hout := FRel.push (hb2.alloc hb2.size _) (own2.alloc _) hn2 hown' hgrow
                clear hown' hgrow
                go_wp2
                go_meet
                case rel => rw [hD.out, Bool.and_false]; exact hout
          case rest =>
            have hfin : tagFine s.data.toList loc = (ok2 && decide ((n12 : Int) = loc)) := by
              rw [tagFine, HQ.out, ← HG.out, HV2.out, HL.out, H8.out, HCr.out, HN12.out, len_data, HB3.out, HB2.out, HOK1.out, HOK2.out]
            rw [← hfin] at hcut
            clear hfin
            go_wp2
            go_ret
            exact ⟨_, rfl, hcut⟩
end Go.Proofs.YtmgbbnnjbgemdaaGreatDoor

/- Law 45, directories: the reference's test of a tag. -/
namespace Go.Proofs.YtmgbbnnjbgemdaaGreatDoor
open Go.RowKit
theorem ret_bool {a b : Bool} (h : a = b) : Ending.returned (.bool a) = .returned (.bool b) := by rw [h]
/-- The length of a list of faults. -/
theorem FRel.form {k : Nat} {w wx : World} {ok : Bool} {v : Value} (h : FRel k w ok v wx) : ∃ (a : Option Addr) (n c : Nat), v = .slice a n c ∧ decide (n = 0) = ok ∧ n ≤ k := by
  obtain ⟨n, xs, h1, hn, ho, _⟩ := h
  obtain ⟨_, h2⟩ := h1
  rcases h2 with ⟨rfl, rfl⟩ | ⟨g, cap, cur, rfl, _⟩
  · exact ⟨none, 0, 0, rfl, ho, hn⟩
  · exact ⟨_, n, cap, rfl, ho, hn⟩
theorem FRel.below {k : Nat} {w wx : World} {ok : Bool} {v : Value} (h : FRel k w ok v wx) : Below w.heap.size w wx := h.choose_spec.choose_spec.2.2.2
set_option maxHeartbeats 400000 in
set_option maxRecDepth 1000000 in
theorem r_faults_short (s : ByteArray) (loc : Int) (w : World) (h : ¬ 16 ≤ s.size) :
    Calls Tryz.prog 112 #[.string s, .int .i64 loc] w fun e w' => ∃ v, e = .returned v ∧ FRel 4 w false v w' := by
  have hlt : (s.size : Int) < 16 := by omega
  clear h
  go_enter Tryz.func112, Tryz.ntmps112
  go_wp2
  go_ret
  exact ⟨_, rfl, 1, [.int .i64 1], World.ownsRow_lit _ _ 1 (Nat.le_refl _) (by decide) rfl, by omega, rfl, (Below.refl _ _).alloc (Nat.le_refl _) _⟩
theorem r_faults_all (s : ByteArray) (loc : Int) (w : World) (hs : s.size ≤ 65536) :
    Calls Tryz.prog 112 #[.string s, .int .i64 loc] w fun e w' => ∃ v, e = .returned v ∧ FRel 4 w (decide (16 ≤ s.data.toList.length) && tagFine s.data.toList loc) v w' := by
  rw [len_data]
  by_cases h : 16 ≤ s.size
  · rw [decide_eq_true h, Bool.true_and]; exact r_faults s loc w h hs
  · rw [decide_eq_false h, Bool.false_and]; exact r_faults_short s loc w h
set_option maxHeartbeats 400000 in
set_option maxRecDepth 1000000 in
theorem r_is (s : ByteArray) (ident : Nat) (loc : Int) (w : World) (hs : s.size ≤ 65536) :
    Calls Tryz.prog 48 #[.string s, .int .i64 ident, .int .i64 loc] w fun e w' => e = .returned (.bool (tagOK s.data.toList ident loc)) ∧ Below w.heap.size w w' := by
  have HF := Lib.hid (r_faults_all s loc w hs)
  have hsz := len_data s
  unfold tagOK
  by_cases h16 : 16 ≤ s.size
  · have HN := Lib.hid (fun W : World => r_num s 0 2 W (by omega) (by omega) hs)
    have hl := num_lt s.data.toList 0 2
    generalize num s.data.toList 0 2 = n0 at *
    generalize (decide (16 ≤ s.data.toList.length) && tagFine s.data.toList loc) = ok at *
    clear hsz
    go_enter Tryz.func48, Tryz.ntmps48
    go_wp2_with fail
    refine HF.out.mono ?_
    rintro e w1 ⟨v, rfl, hv⟩
    have hb := hv.below
    obtain ⟨a, n, c, rfl, hn, hn4⟩ := hv.form
    clear hv HF
    cases ok
    · have hn0 : n ≠ 0 := by simpa using hn
      have hB : ((n : Int) == 0) = false := by rw [beq_eq_false_iff_ne]; omega
      clear hn hn0
      go_wp2_with fail
      go_ret
      exact ⟨rfl, hb⟩
    · have hn0 : n = 0 := by simpa using hn
      subst hn0
      go_wp2_with fail
      refine (HN.out _).mono ?_
      rintro e w2 ⟨rfl, rfl⟩
      go_wp2
      go_ret
      refine ⟨ret_bool (a := ((n0 : Int) == (ident : Int))) ?_, hb⟩
      rw [Bool.eq_iff_iff]
      simp
      try omega
  · have hd : decide (16 ≤ s.data.toList.length) = false := by rw [hsz]; exact decide_eq_false h16
    rw [hd, Bool.false_and] at HF
    rw [hd, Bool.false_and, Bool.false_and]
    clear hd hsz
    go_enter Tryz.func48, Tryz.ntmps48
    go_wp2_with fail
    refine HF.out.mono ?_
    rintro e w1 ⟨v, rfl, hv⟩
    have hb := hv.below
    obtain ⟨a, n, c, rfl, hn, hn4⟩ := hv.form
    clear hv HF
    have hn0 : n ≠ 0 := by simpa using hn
    have hB : ((n : Int) == 0) = false := by rw [beq_eq_false_iff_ne]; omega
    clear hn hn0
    go_wp2_with fail
    go_ret
    exact ⟨rfl, hb⟩
end Go.Proofs.YtmgbbnnjbgemdaaGreatDoor
