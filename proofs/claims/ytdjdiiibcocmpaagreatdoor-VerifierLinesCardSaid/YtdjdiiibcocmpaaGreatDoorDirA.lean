/- Law 45, directories: numbers in bytes, sums, the CRC bit by bit and by its table; no program. -/
import Derived.WalkKit
import Derived.Laws.BitsAllLaws
namespace Go.Proofs.YtdjdiiibcocmpaaGreatDoor
/-! The CRC. -/
/-- One bit. -/
def cbit (c : Nat) : Nat := if c / 32768 = 1 then (c % 32768 * 2) ^^^ 4129 else c % 32768 * 2
def cbits : Nat → Nat → Nat
  | 0, c => c
  | k + 1, c => cbit (cbits k c)
/-- One byte. -/
def cbyte (c : Nat) (b : UInt8) : Nat := cbits 8 (c ^^^ (b.toNat * 256))
def crcOf (l : List UInt8) : Nat := l.foldl cbyte 0
def vbit (v : BitVec 16) : BitVec 16 := (v <<< 1) ^^^ (if v.msb then 4129#16 else 0#16)
theorem vbit_xor (a b : BitVec 16) : vbit (a ^^^ b) = vbit a ^^^ vbit b := by
  have h : ∀ x y k : BitVec 16, (x ^^^ k) ^^^ (y ^^^ k) = x ^^^ y := fun x y k => by
    rw [show (x ^^^ k) ^^^ (y ^^^ k) = x ^^^ y ^^^ (k ^^^ k) by ac_rfl]; simp
  unfold vbit
  rw [BitVec.shiftLeft_xor_distrib, BitVec.msb_xor]
  generalize a <<< 1 = x
  generalize b <<< 1 = y
  cases a.msb <;> cases b.msb
  · show x ^^^ y ^^^ 0#16 = (x ^^^ 0#16) ^^^ (y ^^^ 0#16)
    simp
  · show x ^^^ y ^^^ 4129#16 = (x ^^^ 0#16) ^^^ (y ^^^ 4129#16)
    simp [BitVec.xor_assoc]
  · show x ^^^ y ^^^ 4129#16 = (x ^^^ 4129#16) ^^^ (y ^^^ 0#16)
    rw [BitVec.xor_zero]; ac_rfl
  · show x ^^^ y ^^^ 0#16 = (x ^^^ 4129#16) ^^^ (y ^^^ 4129#16)
    rw [BitVec.xor_zero]; exact (h x y _).symm
theorem cbit_vbit (v : BitVec 16) : cbit v.toNat = (vbit v).toNat := by
  unfold cbit vbit
  have hv := v.isLt
  by_cases h : v.toNat / 32768 = 1
  · have hm : v.msb = true := by rw [BitVec.msb_eq_decide]; simp; omega
    rw [if_pos h, hm]
    simp [BitVec.toNat_xor, BitVec.toNat_shiftLeft, Nat.shiftLeft_eq]
    congr 1
    omega
  · have hm : v.msb = false := by rw [BitVec.msb_eq_decide]; simp; omega
    rw [if_neg h, hm]
    simp [BitVec.toNat_shiftLeft, Nat.shiftLeft_eq]
    omega
theorem cbit_xor (a b : Nat) (ha : a < 65536) (hb : b < 65536) : cbit (a ^^^ b) = cbit a ^^^ cbit b := by
  have ea : a = (BitVec.ofNat 16 a).toNat := by simp; omega
  have eb : b = (BitVec.ofNat 16 b).toNat := by simp; omega
  rw [ea, eb, ← BitVec.toNat_xor, cbit_vbit, cbit_vbit, cbit_vbit, vbit_xor, BitVec.toNat_xor]
theorem cbit_lt (c : Nat) (h : c < 65536) : cbit c < 65536 := by
  have e : c = (BitVec.ofNat 16 c).toNat := by simp; omega
  rw [e, cbit_vbit]
  exact (vbit _).isLt
theorem cbits_lt (k c : Nat) (h : c < 65536) : cbits k c < 65536 := by
  induction k with
  | zero => exact h
  | succ k ih => exact cbit_lt _ ih
theorem xor_lt16 {a b : Nat} (ha : a < 65536) (hb : b < 65536) : a ^^^ b < 65536 := Nat.xor_lt_two_pow (n := 16) ha hb
theorem cbits_xor (k a b : Nat) (ha : a < 65536) (hb : b < 65536) : cbits k (a ^^^ b) = cbits k a ^^^ cbits k b := by
  induction k with
  | zero => rfl
  | succ k ih => rw [cbits, ih, cbit_xor _ _ (cbits_lt _ _ ha) (cbits_lt _ _ hb)]; rfl
theorem cbits_low : ∀ lo, lo < 256 → cbits 8 lo = lo * 256 := by decide +kernel
theorem split16 (c : Nat) : c = (c / 256 * 256) ^^^ (c % 256) := by
  have h : (c / 256 * 256) ^^^ (c % 256) = c / 256 * 256 + c % 256 := by
    have := Nat.two_pow_add_eq_or_of_lt (i := 8) (b := c % 256) (by omega) (c / 256)
    have h2 : (c / 256 * 256) &&& (c % 256) = 0 := by
      apply Nat.eq_of_testBit_eq
      intro i
      rw [Nat.testBit_and, Nat.zero_testBit]
      by_cases hi : i < 8
      · have : (c / 256 * 256).testBit i = false := by
          rw [show c / 256 * 256 = 2 ^ 8 * (c / 256) by omega, Nat.testBit_two_pow_mul]
          simp; omega
        rw [this]; rfl
      · have : (c % 256).testBit i = false := Nat.testBit_lt_two_pow (Nat.lt_of_lt_of_le (show c % 256 < 2 ^ 8 by omega) (Nat.pow_le_pow_right (by omega) (by omega)))
        rw [this, Bool.and_false]
    have h3 : (c / 256 * 256) ^^^ (c % 256) = (c / 256 * 256) ||| (c % 256) := by
      apply Nat.eq_of_testBit_eq
      intro i
      have := congrArg (Nat.testBit · i) h2
      simp only [Nat.testBit_and, Nat.zero_testBit] at this
      rw [Nat.testBit_xor, Nat.testBit_or]
      cases h4 : (c / 256 * 256).testBit i <;> cases h5 : (c % 256).testBit i <;> simp_all
    rw [h3, show c / 256 * 256 = 2 ^ 8 * (c / 256) by omega, ← this]
  rw [h]
  omega
theorem xor_mul (a b : Nat) : (a ^^^ b) * 256 = a * 256 ^^^ b * 256 := by
  have : (a ^^^ b) <<< 8 = a <<< 8 ^^^ b <<< 8 := Nat.shiftLeft_xor_distrib
  simpa [Nat.shiftLeft_eq] using this
/-- The table's way. -/
theorem cbyte_tab (c : Nat) (b : UInt8) (hc : c < 65536) : cbyte c b = (c * 256 % 65536) ^^^ cbits 8 (((c / 256) ^^^ b.toNat) * 256) := by
  have hb : b.toNat < 256 := b.toNat_lt
  have e : c ^^^ (b.toNat * 256) = (((c / 256) ^^^ b.toNat) * 256) ^^^ (c % 256) := by
    rw [xor_mul]
    conv => lhs; rw [split16 c]
    rw [Nat.xor_assoc, Nat.xor_assoc, Nat.xor_comm (c % 256)]
  have h1 : ((c / 256) ^^^ b.toNat) < 256 := Nat.xor_lt_two_pow (n := 8) (by omega) hb
  rw [cbyte, e, cbits_xor 8 (((c / 256) ^^^ b.toNat) * 256) (c % 256) (by omega) (by omega), cbits_low (c % 256) (by omega), Nat.xor_comm]
  congr 1
  omega
theorem cbyte_lt (c : Nat) (b : UInt8) (hc : c < 65536) : cbyte c b < 65536 := cbits_lt _ _ (xor_lt16 hc (by have := b.toNat_lt; omega))
/-! Numbers. -/
def nb (l : List UInt8) (i : Nat) : Nat := (l.getD i 0).toNat
theorem nb_lt (l : List UInt8) (i : Nat) : nb l i < 256 := UInt8.toNat_lt _
def num (l : List UInt8) (i : Nat) : Nat → Nat
  | 0 => 0
  | n + 1 => nb l i + 256 * num l (i + 1) n
theorem num_lt (l : List UInt8) (i n : Nat) : num l i n < 256 ^ n := by
  induction n generalizing i with
  | zero => simp [num]
  | succ n ih => have := ih (i + 1); have := nb_lt l i; rw [num, Nat.pow_succ]; omega
theorem num1 (l : List UInt8) (i : Nat) : num l i 1 = nb l i := by simp [num]
theorem num2 (l : List UInt8) (i : Nat) : num l i 2 = nb l i + 256 * nb l (i + 1) := by simp [num]
theorem num4 (l : List UInt8) (i : Nat) : num l i 4 = nb l i + 256 * nb l (i + 1) + 65536 * nb l (i + 2) + 16777216 * nb l (i + 3) := by
  show nb l i + 256 * (nb l (i + 1) + 256 * (nb l (i + 2) + 256 * (nb l (i + 3) + 256 * 0))) = _
  omega
/-! Sums. -/
def sum8 (l : List UInt8) : Nat := l.foldl (fun n c => (n + c.toNat) % 256) 0
theorem sum8_snoc (l : List UInt8) (c : UInt8) : sum8 (l ++ [c]) = (sum8 l + c.toNat) % 256 := by simp [sum8]
theorem sum8_lt (l : List UInt8) : sum8 l < 256 := by
  rcases List.eq_nil_or_concat l with rfl | ⟨l', c, rfl⟩
  · decide
  · rw [List.concat_eq_append, sum8_snoc]; omega
theorem crcOf_snoc (l : List UInt8) (c : UInt8) : crcOf (l ++ [c]) = cbyte (crcOf l) c := by simp [crcOf]
theorem crcOf_lt (l : List UInt8) : crcOf l < 65536 := by
  have h : ∀ (l : List UInt8) (c : Nat), c < 65536 → l.foldl cbyte c < 65536 := fun l => by
    induction l with
    | nil => exact fun c hc => hc
    | cons b l ih => exact fun c hc => ih _ (cbyte_lt c b hc)
  exact h l 0 (by omega)
/-! Descriptors. -/
/-- A tag without faults. -/
def tagFine (l : List UInt8) (loc : Int) : Bool :=
  ((decide (nb l 4 = sum8 (l.take 4 ++ (l.drop 5).take 11)) && (decide (num l 2 2 = 2) || decide (num l 2 2 = 3))) && (decide (num l 10 2 ≤ l.length - 16) && decide (num l 8 2 = crcOf ((l.drop 16).take (num l 10 2))))) && decide ((num l 12 4 : Int) = loc)
/-- A string begins with a descriptor without faults, of an identifier. -/
def tagOK (l : List UInt8) (ident : Nat) (loc : Int) : Bool := (decide (16 ≤ l.length) && tagFine l loc) && decide (num l 0 2 = ident)
/-- A number is a character. -/
def isChar (n : Nat) : Bool := decide (32 ≤ n) && (decide (n ≤ 65533) && (decide (n < 55296) || decide (57343 < n)))
/-- The characters of compressed Unicode, of one byte each, of two. -/
def chars1 : List UInt8 → Option (List Nat)
  | [] => some []
  | b :: l => if isChar b.toNat then (chars1 l).map (b.toNat :: ·) else none
def chars2 : List UInt8 → Option (List Nat)
  | [] => some []
  | [_] => none
  | a :: b :: l => if isChar (a.toNat * 256 + b.toNat) then (chars2 l).map ((a.toNat * 256 + b.toNat) :: ·) else none
def chars : List UInt8 → Option (List Nat)
  | [] => some []
  | h :: l => if h = 8 then chars1 l else if h = 16 then chars2 l else none
/-- UTF-8. -/
def enc (n : Nat) : List UInt8 :=
  if n < 128 then [UInt8.ofNat n] else if n < 2048 then [UInt8.ofNat (192 + n / 64), UInt8.ofNat (128 + n % 64)] else [UInt8.ofNat (224 + n / 4096), UInt8.ofNat (128 + n / 64 % 64), UInt8.ofNat (128 + n % 64)]
def encs (l : List Nat) : List UInt8 := l.flatMap enc
/-- An entry of a directory. -/
structure FidS where
  cs : List Nat
  block : Nat
  part : Nat
  unique : Nat
  c : Nat
def FidS.name (f : FidS) : List UInt8 := encs f.cs
def FidS.hidden (f : FidS) : Bool := decide (f.c % 2 = 1)
def FidS.directory (f : FidS) : Bool := decide (f.c / 2 % 2 = 1)
def FidS.deleted (f : FidS) : Bool := decide (f.c / 4 % 2 = 1)
def FidS.parent (f : FidS) : Bool := decide (f.c / 8 % 2 = 1)
def FidS.metadata (f : FidS) : Bool := decide (f.c / 16 % 2 = 1)
def rounded (n : Nat) : Nat := (n + 3) / 4 * 4
/-- The entry is valid. -/
def FidS.entry (f : FidS) : Bool := if f.parent then f.directory && f.cs.isEmpty else !f.cs.isEmpty
/-- The descriptor at the beginning of a string. -/
def fidAt (l : List UInt8) (loc : Int) : Option (FidS × Nat) :=
  if tagOK l 257 loc && decide (38 ≤ l.length) then
    let n := nb l 19
    let at_ := 38 + num l 36 2
    if rounded (at_ + n) ≤ l.length then
      match chars ((l.drop at_).take n) with
      | none => none
      | some cs => let f : FidS := ⟨cs, num l 24 4, num l 28 2, num l 32 4, nb l 18⟩; if f.entry then some (f, rounded (at_ + n)) else none
    else none
  else none
/-- A name. -/
def goodName (f : FidS) : Bool := decide (f.name ≠ [46]) && (decide (f.name ≠ [46, 46]) && (!f.name.contains 47 && (decide (1 ≤ f.cs.length) && decide (f.cs.length ≤ 64))))
/-- What is wrong with an entry of a directory. -/
def wrong (f : FidS) (at_ : Nat) (seen : List (List UInt8)) : Bool := (f.parent != decide (at_ = 0)) || ((!f.deleted && !f.parent) && (!goodName f || seen.contains f.name))
/-- The findings' offsets. -/
def offs (d : List UInt8) (blocks : List Int) : Nat → Nat → List (List UInt8) → List Nat
  | 0, _, _ => []
  | fuel + 1, at_, seen =>
    if at_ < d.length then
      match blocks[at_ / 2048]? with
      | none => [at_]
      | some b =>
        match fidAt (d.drop at_) b with
        | none => [at_]
        | some (f, n) => (if wrong f at_ seen then [at_] else []) ++ offs d blocks fuel (at_ + n) (if !f.deleted && !f.parent then f.name :: seen else seen)
    else []
end Go.Proofs.YtdjdiiibcocmpaaGreatDoor
