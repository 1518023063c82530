/- Law 58, VerifierLines: the reference's decimal numerals, its lists of the texts of differences and of losses. Conditions: as each theorem says. -/
import Derived.Lib.ItoaMem
import Derived.Lib.ItoaNum
import Derived.Test.YtdjdiiibcocmpaaGreatDoorProg
import Derived.WalkKit
import Derived.WalkSpells
import Derived.WalkLawsBesides
import Derived.Lib.Strings
import Derived.Lib.Hide
import Derived.Laws.IdiomStrings
import Derived.Laws.AppendOwn
import Derived.OwnWalk
import Derived.KernelRfl
import Derived.Deep.QuietTactic
import Derived.BigQuiet
import Derived.Lib.ItoaLen
import Derived.Deep.RegionWith
import Derived.Deep.DeepCutAuto
import Derived.Laws.Rows
import Derived.Laws.CopyRow
import Derived.Deep.WholeRow
import Derived.Deep.RegionLaw
import Derived.Deep.RegionHeld3
import Derived.Deep.AppendLies
import Derived.Laws.CopyOwn
/- Law 58, VerifierLines: plain laws, of no program: decimal numerals as the reference makes them. -/
namespace Go.Proofs.YtdjdiiibcocmpaaGreatDoor
open Go.Lib
theorem dec_small {u : Nat} (h : u < 10) : decDigits u = [UInt8.ofNat (48 + u)] := by rw [decDigits, dif_pos h]
theorem dec_big {u : Nat} (h : ¬ u < 10) : decDigits u = decDigits (u / 10) ++ [UInt8.ofNat (48 + u % 10)] := by rw [decDigits, dif_neg h]
theorem itoa_digit (u : Nat) (h : u < 10) : itoa (u : Int) = [UInt8.ofNat (48 + u)] := by rw [itoa_nonneg, dec_small h]
theorem itoa_step (u : Nat) (h : 10 ≤ u) : itoa (u : Int) = itoa ((u / 10 : Nat) : Int) ++ [UInt8.ofNat (48 + u % 10)] := by
  rw [itoa_nonneg, itoa_nonneg, dec_big (by omega)]
theorem itoa_minus_digit (u : Nat) (h1 : 1 ≤ u) : itoa (-(u : Int)) = 45 :: itoa (u : Int) := by rw [itoa_neg u h1, itoa_nonneg]
theorem itoa_minus_step (u : Nat) (h : 10 ≤ u) : itoa (-(u : Int)) = itoa (-((u / 10 : Nat) : Int)) ++ itoa ((u % 10 : Nat) : Int) := by
  rw [itoa_neg u (by omega), itoa_neg (u / 10) (by omega), itoa_nonneg, dec_big (by omega), dec_small (u := u % 10) (by omega)]
  rfl
theorem tdiv_neg (u : Nat) : (-(u : Int)).tdiv 10 = -((u / 10 : Nat) : Int) := by
  rw [Int.neg_tdiv]; rfl
theorem tmod_neg (u : Nat) : (-(u : Int)).tmod 10 = -((u % 10 : Nat) : Int) := by
  rw [Int.neg_tmod]; rfl
/-- Decimal digits with fuel: for the kernel. -/
def digs : Nat → Nat → List UInt8
  | 0, _ => []
  | f + 1, u => if u < 10 then [UInt8.ofNat (48 + u)] else digs f (u / 10) ++ [UInt8.ofNat (48 + u % 10)]
theorem decDigits_digs : ∀ (f u : Nat), u < 10 ^ (f + 1) → decDigits u = digs (f + 1) u
  | 0, u, h => by rw [dec_small (by simpa using h), digs, if_pos (by simpa using h)]
  | f + 1, u, h => by
    rw [digs]
    by_cases hu : u < 10
    · rw [dec_small hu, if_pos hu]
    · rw [dec_big hu, if_neg hu, decDigits_digs f (u / 10) (by rw [Nat.pow_succ] at h; omega)]
end Go.Proofs.YtdjdiiibcocmpaaGreatDoor
/- Law 58, VerifierLines: the reference's string of equal bytes. Conditions: at most 1000000 of them. -/
namespace Go.Proofs.YtdjdiiibcocmpaaGreatDoor
open Go.RowKit
set_option maxRecDepth 1000000
set_option maxHeartbeats 1600000
theorem len_data (s : ByteArray) : s.data.toList.length = s.size := by simp
theorem new_one (W : World) (g : Nat) (v : Value) (e : TypeId) (h : g = W.heap.size) : (W.alloc (.cells #[v] e)).cell? (({ block := g, off := 0 } : Addr).add 0) = some v := by
  subst h
  show (W.alloc (.cells #[v] e)).cell? ⟨W.heap.size, 0, none⟩ = some v
  rw [World.cell?_alloc_at _ _ _ _ rfl]
  rfl
def bytesV (l : List UInt8) : List Value := l.map fun (b : UInt8) => .int .u8 (b.toNat : Int)
theorem bytesV_snoc (l : List UInt8) (b : UInt8) : bytesV (l ++ [b]) = bytesV l ++ [.int .u8 (b.toNat : Int)] := by simp [bytesV]
theorem info_byte : (Tryz.prog.info? 5).map (fun i => (i.zero, i.size, i.bytes)) = some (some (.int .u8 0), 1, 1) := by kernel_rfl
/-- The string of a row of bytes. -/
theorem conv_own {w : World} {base : Nat} {v : Value} (l : List UInt8) (n : Nat) (h : w.ownsRow base 5 1 v n (bytesV l)) : Sem.run Tryz.prog (convert 401 9 v) w = .ok (.string ⟨l.toArray⟩) w := by
  have hn : l.length = n := by have := h.1; rw [bytesV, List.length_map, Nat.mul_one] at this; exact this
  subst hn
  rcases h.2 with ⟨rfl, h2⟩ | ⟨g, cap, cur, rfl, _⟩
  · have e : l = [] := List.length_eq_zero_iff.1 h2
    subst e
    rw [show Sem.run Tryz.prog (convert 401 9 (.slice none 0 0)) w = Sem.run Tryz.prog (Conv.bytesToString (.slice none 0 0)) w from run_convert_bytes_string w _ _ 5 none 0 0 Tryz.underlying401 Tryz.underlying5 Tryz.underlying9]
    rfl
  · refine run_convert_bytes_back w _ _ 5 _ _ l Tryz.underlying401 Tryz.underlying5 Tryz.underlying9 ?_
    intro j hj
    exact h.cells rfl j _ (by rw [bytesV, List.getElem?_map, List.getElem?_eq_getElem hj]; rfl)
theorem byte_of (n : Nat) (h : n < 256) : Value.int .u8 (n : Int) = .int .u8 ((UInt8.ofNat n).toNat : Int) := by congr; simp; omega
def ReRel (b c : Nat) (w : World) (out i : Value) (wr : World) : Prop := ∃ k : Nat, i = .int .i64 k ∧ k ≤ c ∧ wr.ownsRow w.heap.size 5 1 out k (bytesV (List.replicate k (UInt8.ofNat b))) ∧ Below w.heap.size w wr
theorem r_repeat (b c : Nat) (w : World) (hb : b < 256) (hc : c ≤ 1000000) :
    Calls Tryz.prog 217 #[.int .u8 (b : Nat), .int .i64 (c : Nat)] w fun e w' => e = .returned (.string ⟨(List.replicate c (UInt8.ofNat b)).toArray⟩) ∧ Below w.heap.size w w' := by
  obtain ⟨i0, hi, hz0, hz1, hz2⟩ := info_parts info_byte
  have HB := Lib.hid (byte_of b hb)
  go_enter Tryz.func217, Tryz.ntmps217
  go_wp2
  go_loopw [5, 6] (fun out i wr => ReRel b c w out i wr) (fun _ i _ => c - (intOf i).toNat)
  case atStart => exact ⟨0, rfl, Nat.zero_le _, World.ownsRow_lit _ _ 0 (Nat.le_refl _) (by decide) rfl, (Below.refl _ _).alloc (Nat.le_refl _) _⟩
  case round =>
    obtain ⟨k, rfl, hk, hown, hbw⟩ := hrel
    by_cases hlt : k < c
    · have hlt' : (k : Int) < (c : Int) := by omega
      go_wp2_with (first
        | (at_builtin; refine wpList_append_own _ rfl _ _ 401 rfl w.heap.size 5 i0 (.int .u8 0) 1 1 Tryz.underlying401 hi hz0 hz1 hz2 rfl (by decide) _ _ _ rfl (hown.alloc _) ⟨wr.heap.size, 0, none⟩ 1 1 [.int .u8 (b : Int)] rfl rfl ?_ ?_ ?_ ?_ ?_ ?_)
        | go_in)
      · intro j u hj
        match j, hj with
        | 0, hj => simp at hj; subst hj; exact new_one _ _ _ _ rfl
      · intro u hu; simp at hu; subst hu; rfl
      · unfold maxLen; omega
      · omega
      · exact (hbw.alloc hbw.size _).size
      · intro v' w2 hown' hgrow _
        have hb2 := (hbw.alloc hbw.size _).grown hgrow (hbw.alloc hbw.size _).size (fun j hj => (hown.lt j hj).1)
        rw [HB.out, ← bytesV_snoc, ← List.replicate_succ'] at hown'
        go_wp2
        go_roundw
        case rel => exact ⟨k + 1, by go_num, by omega, hown', hb2⟩
        case measure => simp [intOf]; omega
    · have hk' : k = c := by omega
      subst hk'
      have hconv := conv_own _ k hown
      go_wp2
      go_ret
      exact ⟨rfl, hbw⟩
end Go.Proofs.YtdjdiiibcocmpaaGreatDoor
/- Law 58, VerifierLines: the reference's decimal numerals. Conditions: none but that the number is an int. -/
namespace Go.Proofs.YtdjdiiibcocmpaaGreatDoor
open Go.RowKit Go.Lib
set_option maxRecDepth 1000000
set_option maxHeartbeats 1600000
/-- The ten digits. -/
def ten : ByteArray := ⟨#[48, 49, 50, 51, 52, 53, 54, 55, 56, 57]⟩
theorem ten_at : ∀ k, k < 10 → ten.extract k (k + 1) = ⟨(itoa ((k : Nat) : Int)).toArray⟩ := by
  intro k h
  rw [itoa_digit k h]
  have : ∀ k : Fin 10, ten.extract k.1 (k.1 + 1) = ⟨#[UInt8.ofNat (48 + k.1)]⟩ := by decide +kernel
  exact this ⟨k, h⟩
theorem ba_app (a b : List UInt8) : (⟨a.toArray⟩ : ByteArray) ++ ⟨b.toArray⟩ = ⟨(a ++ b).toArray⟩ := by
  apply ByteArray.ext
  simp
theorem ba_minus (l : List UInt8) : (⟨#[45]⟩ : ByteArray) ++ ⟨l.toArray⟩ = ⟨(45 :: l).toArray⟩ := ba_app [45] l
theorem r_decimal : ∀ (u : Nat) (n : Int), n.natAbs ≤ u → -9223372036854775808 ≤ n → n ≤ 9223372036854775807 → ∀ (w : World),
    Calls Tryz.prog 22 #[.int .i64 n] w fun e w' => e = .returned (.string ⟨(itoa n).toArray⟩) ∧ ∃ m, w' = w.drewN m
  | u, n, hu, h0, h1, w => by
    by_cases hneg : n < 0
    · obtain ⟨k, rfl⟩ : ∃ k : Nat, n = -(k : Int) := ⟨n.natAbs, by omega⟩
      have hk1 : 1 ≤ k := by omega
      by_cases hb : -(k : Int) < -9
      · cases u with
        | zero => omega
        | succ u =>
          have hk : 10 ≤ k := by omega
          have I1 := Lib.hid (fun W : World => r_decimal u (-((k / 10 : Nat) : Int)) (by omega) (by omega) (by omega) W)
          have I2 := Lib.hid (fun W : World => r_decimal u ((k % 10 : Nat) : Int) (by omega) (by omega) (by omega) W)
          have e1 := tdiv_neg k
          have e2 := tmod_neg k
          have e3 := itoa_minus_step k hk
          rw [e3, ← ba_app]
          have w1 : wrap64 (-((k / 10 : Nat) : Int)) = -((k / 10 : Nat) : Int) := by unfold wrap64; omega
          have w2 : wrap64 ((k % 10 : Nat) : Int) = ((k % 10 : Nat) : Int) := by unfold wrap64; omega
          have w3 : wrap64 ((k : Int) % 10) = ((k % 10 : Nat) : Int) := by unfold wrap64; omega
          have z1 := itoa_length_le (-((k / 10 : Nat) : Int)) (by omega) (by omega)
          have z2 := itoa_length_le ((k % 10 : Nat) : Int) (by omega) (by omega)
          generalize hp : k / 10 = p at *
          generalize hq : k % 10 = q at *
          have HP := Lib.hid hp
          have HQ := Lib.hid hq
          clear hp hq e3
          go_enter Tryz.func22, Tryz.ntmps22
          go_wp2_with fail
          refine (I1.out _).mono ?_
          rintro e wa ⟨rfl, ma, rfl⟩
          go_wp2_with fail
          refine (I2.out _).mono ?_
          rintro e wb ⟨rfl, mb, rfl⟩
          go_wp2
          go_ret
          exact ⟨rfl, ma + mb, rfl⟩
      · have hk9 : k ≤ 9 := by omega
        have e3 := itoa_minus_digit k hk1
        have e4 := itoa_digit k (by omega)
        rw [e3, ← ba_minus]
        have z1 := itoa_length_le (k : Int) (by omega) (by omega)
        have I2 := Lib.hid (show ∀ W : World, Calls Tryz.prog 22 #[.int .i64 ((k : Nat) : Int)] W fun e w' => e = .returned (.string ⟨(itoa ((k : Nat) : Int)).toArray⟩) ∧ ∃ m, w' = W.drewN m from fun W => by
          have ht := ten_at k (by omega)
          rw [← ht]
          have a0 : ¬ (k : Int) < 0 := by omega
          have a1 : (k : Int) < 10 := by omega
          clear e3 e4 ht hneg hb
          go_enter Tryz.func22, Tryz.ntmps22
          go_wp2
          go_ret
          exact ⟨rfl, 0, rfl⟩)
        have w1 : wrap64 (k : Int) = (k : Int) := by unfold wrap64; omega
        clear e3 e4
        go_enter Tryz.func22, Tryz.ntmps22
        go_wp2_with fail
        refine (I2.out _).mono ?_
        rintro e wa ⟨rfl, ma, rfl⟩
        go_wp2
        go_ret
        exact ⟨rfl, ma, rfl⟩
    · obtain ⟨k, rfl⟩ : ∃ k : Nat, n = (k : Int) := ⟨n.natAbs, by omega⟩
      by_cases hlt : k < 10
      · have ht := ten_at k hlt
        rw [← ht]
        have a1 : (k : Int) < 10 := by omega
        clear ht
        go_enter Tryz.func22, Tryz.ntmps22
        go_wp2
        go_ret
        exact ⟨rfl, 0, rfl⟩
      · cases u with
        | zero => omega
        | succ u =>
          have I1' := fun W : World => r_decimal u ((k / 10 : Nat) : Int) (by omega) (by omega) (by omega) W
          have wp : IntKind.i64.wrap ((k / 10 : Nat) : Int) = ((k / 10 : Nat) : Int) := by rw [IntKind.wrap_i64]; omega
          have I1 := Lib.hid (show ∀ W : World, Calls Tryz.prog 22 #[.int .i64 (IntKind.i64.wrap ((k / 10 : Nat) : Int))] W fun e w' => e = .returned (.string ⟨(itoa ((k / 10 : Nat) : Int)).toArray⟩) ∧ ∃ m, w' = W.drewN m from fun W => by rw [wp]; exact I1' W)
          clear wp
          have I0 := Lib.hid (show ∀ W : World, Calls Tryz.prog 22 #[.int .i64 ((k / 10 : Nat) : Int)] W fun e w' => e = .returned (.string ⟨(itoa ((k / 10 : Nat) : Int)).toArray⟩) ∧ ∃ m, w' = W.drewN m from I1')
          have e3 := itoa_step k (by omega)
          have ht := ten_at (k % 10) (by omega)
          rw [itoa_digit (k % 10) (by omega)] at ht
          rw [e3, ← ba_app, ← ht]
          have a1 : ¬ (k : Int) < 10 := by omega
          clear I1'
          have e1 : (k : Int).tdiv 10 = ((k / 10 : Nat) : Int) := by rw [Int.tdiv_eq_ediv_of_nonneg (by omega)]; omega
          have e2 : (k : Int).tmod 10 = ((k % 10 : Nat) : Int) := by rw [Int.tmod_eq_emod_of_nonneg (by omega)]; omega
          have z1 := itoa_length_le ((k / 10 : Nat) : Int) (by omega) (by omega)
          have hp : k / 10 ≤ 922337203685477580 := by omega
          have hq : k % 10 < 10 := by omega
          generalize k / 10 = p at *
          generalize k % 10 = q at *
          have hqi : (q : Int) < 10 := by omega
          have hqi1 : (q : Int) + 1 ≤ 10 := by omega
          have hqi0 : (0 : Int) ≤ (q : Int) := by omega
          have wq : IntKind.i64.wrap (q : Int) = q := by rw [IntKind.wrap_i64]; omega
          have wq1 : IntKind.i64.wrap ((q : Int) + 1) = (q : Int) + 1 := by rw [IntKind.wrap_i64]; omega
          clear ht e3
          go_enter Tryz.func22, Tryz.ntmps22
          go_upto_region 7 with (fail)
          go_quiet ((go_at_call 22; first | with_reducible exact Calls.quiet_of (I0.out _) | with_reducible exact Calls.quiet_of (I1.out _)))
          go_wp2
          go_ret
          exact ⟨rfl, _, rfl⟩
end Go.Proofs.YtdjdiiibcocmpaaGreatDoor
/- Law 58, VerifierLines: the reference's texts of differences. Conditions: at most 100 of them, paths of at most 500 bytes. -/
namespace Go.Proofs.YtdjdiiibcocmpaaGreatDoor
open Go.RowKit
set_option maxRecDepth 1000000
set_option maxHeartbeats 3200000
/-- Rows of 'm' cells each lie at a slice, in a block of which 'p' holds. -/
def RowV (w : World) (p : Nat → Prop) (v : Value) (m : Nat) (cs : List (List Value)) : Prop :=
  ∃ (a : Option Addr) (c : Nat), v = .slice a cs.length c ∧ ∀ k, (h : k < cs.length) → ∃ b off, a = some ⟨b, off, none⟩ ∧ p b ∧ ∀ j x, cs[k][j]? = some x → w.cell? ⟨b, off + k * m + j, none⟩ = some x
theorem RowV.frame {w w' : World} {p q : Nat → Prop} {v : Value} {m : Nat} {cs : List (List Value)} (h : RowV w p v m cs) (hb : ∀ b, p b → q b ∧ ∀ o, w'.cell? ⟨b, o, none⟩ = w.cell? ⟨b, o, none⟩) : RowV w' q v m cs := by
  obtain ⟨a, c, rfl, h⟩ := h
  refine ⟨a, c, rfl, fun k hk => ?_⟩
  obtain ⟨b, off, h1, h2, h3⟩ := h k hk
  exact ⟨b, off, h1, (hb b h2).1, fun j x hx => ((hb b h2).2 _).trans (h3 j x hx)⟩
theorem frame_below {B : Nat} {w w' : World} (hb : Below B w w') : ∀ b, b < B → b < B ∧ ∀ o, w'.cell? ⟨b, o, none⟩ = w.cell? ⟨b, o, none⟩ := fun _ h => ⟨h, fun _ => hb.cell h⟩
theorem RowV.below {w w' : World} {B : Nat} {v : Value} {m : Nat} {cs : List (List Value)} (h : RowV w (· < B) v m cs) (hb : Below B w w') : RowV w' (· < B) v m cs := h.frame (frame_below hb)
theorem RowV.at {w : World} {p : Nat → Prop} {v : Value} {m : Nat} {cs : List (List Value)} (h : RowV w p v m cs) {k : Nat} (hk : k < cs.length) :
    ∃ b off c, v = .slice (some ⟨b, off, none⟩) cs.length c ∧ p b ∧ ∀ j x, cs[k][j]? = some x → w.cell? ⟨b, off + k * m + j, none⟩ = some x := by
  obtain ⟨a, c, rfl, h⟩ := h
  obtain ⟨b, off, rfl, h2, h3⟩ := h k hk
  exact ⟨b, off, c, rfl, h2, h3⟩
theorem below_alloc1 (w : World) (o : Obj) : Below w.heap.size w (w.alloc o) := (Below.refl _ _).alloc (Nat.le_refl _) o
theorem info_str : (Tryz.prog.info? 9).map (fun i => (i.zero, i.size, i.bytes)) = some (some (.string ⟨#[]⟩), 1, 16) := by kernel_rfl
/-- The words of the kinds of differences. -/
def words8 : List ByteArray := [⟨#[109, 105, 115, 115, 105, 110, 103]⟩, ⟨#[101, 120, 116, 114, 97]⟩, ⟨#[107, 105, 110, 100]⟩, ⟨#[100, 97, 116, 97]⟩, ⟨#[116, 97, 114, 103, 101, 116]⟩, ⟨#[97, 116, 116, 114, 105, 98, 117, 116, 101, 115]⟩, ⟨#[116, 105, 109, 101]⟩, ⟨#[115, 116, 114, 101, 97, 109, 115]⟩]
def dword (k : Int) : ByteArray := if 0 ≤ k ∧ k < 8 then words8.getD k.toNat ⟨#[]⟩ else ⟨#[]⟩
def diffLine (d : Int × ByteArray) : ByteArray := if 0 ≤ d.1 ∧ d.1 < 8 then (if d.2.size = 0 then dword d.1 ++ ⟨#[32, 46]⟩ else (dword d.1 ++ ⟨#[32]⟩) ++ d.2) else ⟨#[]⟩
theorem dword_size (k : Int) : (dword k).size ≤ 10 ∧ (0 ≤ k ∧ k < 8 → 4 ≤ (dword k).size) := by
  unfold dword
  split
  · have key : ∀ q : Fin 8, (words8.getD q.1 ⟨#[]⟩).size ≤ 10 ∧ 4 ≤ (words8.getD q.1 ⟨#[]⟩).size := by decide +kernel
    have := key ⟨k.toNat, by omega⟩
    exact ⟨this.1, fun _ => this.2⟩
  · exact ⟨by decide, fun h => absurd h (by assumption)⟩
def diffCells (l : List (Int × ByteArray)) : List (List Value) := l.map fun d => [.int .i64 d.1, .string d.2]
theorem isE {s : ByteArray} (h : s.size = 0) : s.toList.isEmpty = true := by
  have : s.data.toList = [] := List.length_eq_zero_iff.1 (by rw [len_data]; exact h)
  rw [ByteArray.toList_eq]
  simp [this]
theorem r_word (k : Int) (w : World) : Calls Tryz.prog 39 #[.int .i64 k] w fun e w' => e = .returned (.string (dword k)) ∧ w' = w := by
  by_cases h : 0 ≤ k ∧ k < 8
  · have key : k = 0 ∨ k = 1 ∨ k = 2 ∨ k = 3 ∨ k = 4 ∨ k = 5 ∨ k = 6 ∨ k = 7 := by omega
    rcases key with rfl | rfl | rfl | rfl | rfl | rfl | rfl | rfl <;>
    · go_enter Tryz.func39, Tryz.ntmps39
      go_wp2
      go_ret
      exact ⟨rfl, rfl⟩
  · have hd : dword k = ⟨#[]⟩ := if_neg h
    rw [hd]
    have n0 : ¬ k = 0 := by omega
    have n1 : ¬ k = 1 := by omega
    have n2 : ¬ k = 2 := by omega
    have n3 : ¬ k = 3 := by omega
    have n4 : ¬ k = 4 := by omega
    have n5 : ¬ k = 5 := by omega
    have n6 : ¬ k = 6 := by omega
    have n7 : ¬ k = 7 := by omega
    clear h hd
    go_enter Tryz.func39, Tryz.ntmps39
    go_wp2
    go_ret
    exact ⟨rfl, rfl⟩
end Go.Proofs.YtdjdiiibcocmpaaGreatDoor
/- Law 58, VerifierLines: the reference's list of the texts of differences. Conditions: at most 100 of them, paths of at most 500 bytes. -/
namespace Go.Proofs.YtdjdiiibcocmpaaGreatDoor
open Go.RowKit
set_option maxRecDepth 1000000
set_option maxHeartbeats 3200000
theorem isN {s : ByteArray} (h : s.size ≠ 0) : s.toList.isEmpty = false := by
  cases hq : s.toList with
  | nil =>
    rw [ByteArray.toList_eq] at hq
    exact absurd (by rw [← len_data, hq]; rfl) h
  | cons a r => rfl
def strsV (l : List ByteArray) : List Value := l.map Value.string
theorem strsV_snoc (l : List ByteArray) (s : ByteArray) : strsV (l ++ [s]) = strsV l ++ [.string s] := by simp [strsV]
theorem map_take_snoc {α : Type} (f : α → ByteArray) (l : List α) (k : Nat) (h : k < l.length) : (l.map f).take (k + 1) = (l.map f).take k ++ [f l[k]] := by
  rw [List.take_succ_eq_append_getElem (by rw [List.length_map]; exact h), List.getElem_map]
/-- A list of texts that is being made. -/
def OutR {α : Type} (f : α → ByteArray) (l : List α) (w : World) (out i : Value) (wr : World) : Prop :=
  ∃ k : Nat, i = .int .i64 k ∧ k ≤ l.length ∧ wr.ownsRow w.heap.size 9 1 out k (strsV ((l.map f).take k)) ∧ Below w.heap.size w wr
theorem r_fmt50 (ds : List (Int × ByteArray)) (v : Value) (B : Nat) (w : World) (hv : RowV w (· < B) v 2 (diffCells ds)) (hB : B ≤ w.heap.size) (hl : ds.length ≤ 100) (hz : ∀ d ∈ ds, d.2.size ≤ 500) :
    Calls Tryz.prog 23 #[v] w fun e w' => ∃ o, e = .returned o ∧ w'.ownsRow w.heap.size 9 1 o ds.length (strsV (ds.map diffLine)) ∧ Below w.heap.size w w' := by
  obtain ⟨i0, hi, hz0, hz1, hz2⟩ := info_parts info_str
  obtain ⟨a, c, rfl, hrow⟩ := hv
  have hlen : (diffCells ds).length = ds.length := by simp [diffCells]
  have HROW := Lib.hid (show ∀ k, (h : k < ds.length) → ∃ b off, a = some ⟨b, off, none⟩ ∧ b < B ∧ w.cell? ⟨b, off + k * 2, none⟩ = some (.int .i64 ds[k].1) ∧ w.cell? ⟨b, off + k * 2 + 1, none⟩ = some (.string ds[k].2) from fun k h => by
    obtain ⟨b, off, h1, h2, h3⟩ := hrow k (by omega)
    exact ⟨b, off, h1, h2, h3 0 _ (by simp [diffCells]), h3 1 _ (by simp [diffCells])⟩)
  have HZ := Lib.hid hz
  have HW := Lib.hid (fun (k : Int) (W : World) => r_word k W)
  rw [hlen]
  clear hrow hlen hz
  go_enter Tryz.func23, Tryz.ntmps23
  go_wp2_with fail
  go_loopw [3, 4] (fun out i wr => OutR diffLine ds w out i wr) (fun _ i _ => ds.length - (intOf i).toNat)
  case atStart => exact ⟨0, rfl, Nat.zero_le _, World.ownsRow_nil .., Below.refl _ _⟩
  case round =>
    obtain ⟨k, rfl, hk, hown, hbw⟩ := hrel
    by_cases hlt : k < ds.length
    · have hi' : (k : Int) < ds.length := by omega
      obtain ⟨b, off, rfl, hbB, hc0, hc1⟩ := HROW.out k hlt
      have c0 := (hbw.cell (Nat.lt_of_lt_of_le hbB hB)).trans hc0
      have c1 := (hbw.cell (Nat.lt_of_lt_of_le hbB hB)).trans hc1
      have hpz := HZ.out ds[k] (List.getElem_mem hlt)
      have HD := Lib.hid (show diffLine ds[k] = if 0 ≤ ds[k].1 ∧ ds[k].1 < 8 then (if ds[k].2.size = 0 then dword ds[k].1 ++ ⟨#[32, 46]⟩ else (dword ds[k].1 ++ ⟨#[32]⟩) ++ ds[k].2) else ⟨#[]⟩ from rfl)
      have HS := Lib.hid (show strsV ((ds.map diffLine).take (k + 1)) = strsV ((ds.map diffLine).take k) ++ [.string (diffLine ds[k])] by rw [map_take_snoc diffLine ds k hlt, strsV_snoc])
      have hw1 := (dword_size ds[k].1).1
      have hw2 := (dword_size ds[k].1).2
      have hwn : ¬ (0 ≤ ds[k].1 ∧ ds[k].1 < 8) → (dword ds[k].1) = ⟨#[]⟩ := fun h => if_neg h
      clear hc0 hc1
      generalize ds[k].1 = q at *
      generalize ds[k].2 = p at *
      generalize diffLine ds[k] = dl at *
      by_cases hq : 0 ≤ q ∧ q < 8
      · have h4 := hw2 hq
        have hDE : (dword q).toList.isEmpty = false := isN (by omega)
        have HC := Lib.hid (HW.out q)
        rw [if_pos hq] at HD
        clear hwn hw2 h4
        generalize dword q = D at *
        by_cases hp : p.size = 0
        · have hPE := isE hp
          rw [if_pos hp] at HD
          rw [HD.out] at HS
          clear HD hq
          go_wp2_with (first
            | (at_builtin; refine wpList_append_own _ rfl _ _ 39 rfl w.heap.size 9 i0 (.string ⟨#[]⟩) 1 16 Tryz.underlying39 hi hz0 hz1 hz2 rfl (by decide) _ _ _ rfl (hown.alloc _) ⟨wr.heap.size, 0, none⟩ 1 1 [.string (D ++ ⟨#[32, 46]⟩)] rfl rfl ?_ ?_ ?_ ?_ ?_ ?_)
            | (go_at_call 39; refine (HC.out _).mono ?_; rintro e wz ⟨rfl, hwz⟩; rw [hwz]; clear hwz wz)
            | go_in)
          · intro j u hj
            match j, hj with
            | 0, hj => simp at hj; subst hj; exact new_one _ _ _ _ rfl
          · intro u hu; simp at hu; subst hu; rfl
          · unfold maxLen; omega
          · omega
          · exact (hbw.alloc hbw.size _).size
          · intro v' w2 hown' hgrow _
            have hb2 := (hbw.alloc hbw.size _).grown hgrow (hbw.alloc hbw.size _).size (fun j hj => (hown.lt j hj).1)
            rw [← HS.out] at hown'
            go_wp2
            go_roundw
            case rel => exact ⟨k + 1, by go_num, by omega, hown', hb2⟩
            case measure => simp [intOf]; omega
        · have hPE := isN hp
          rw [if_neg hp] at HD
          rw [HD.out] at HS
          clear HD hq
          go_wp2_with (first
            | (at_builtin; refine wpList_append_own _ rfl _ _ 39 rfl w.heap.size 9 i0 (.string ⟨#[]⟩) 1 16 Tryz.underlying39 hi hz0 hz1 hz2 rfl (by decide) _ _ _ rfl (hown.alloc _) ⟨wr.heap.size, 0, none⟩ 1 1 [.string ((D ++ ⟨#[32]⟩) ++ p)] rfl rfl ?_ ?_ ?_ ?_ ?_ ?_)
            | (go_at_call 39; refine (HC.out _).mono ?_; rintro e wz ⟨rfl, hwz⟩; rw [hwz]; clear hwz wz)
            | go_in)
          · intro j u hj
            match j, hj with
            | 0, hj => simp at hj; subst hj; exact new_one _ _ _ _ rfl
          · intro u hu; simp at hu; subst hu; rfl
          · unfold maxLen; omega
          · omega
          · exact (hbw.alloc hbw.size _).size
          · intro v' w2 hown' hgrow _
            have hb2 := (hbw.alloc hbw.size _).grown hgrow (hbw.alloc hbw.size _).size (fun j hj => (hown.lt j hj).1)
            rw [← HS.out] at hown'
            go_wp2
            go_roundw
            case rel => exact ⟨k + 1, by go_num, by omega, hown', hb2⟩
            case measure => simp [intOf]; omega
      · have HC := Lib.hid (fun W : World => HW.out q W)
        have hd0 := hwn hq
        rw [hd0] at HC
        rw [if_neg hq] at HD
        rw [HD.out] at HS
        clear hwn hw2 hw1 hq HD hd0
        go_wp2_with (first
          | (at_builtin; refine wpList_append_own _ rfl _ _ 39 rfl w.heap.size 9 i0 (.string ⟨#[]⟩) 1 16 Tryz.underlying39 hi hz0 hz1 hz2 rfl (by decide) _ _ _ rfl (hown.alloc _) ⟨wr.heap.size, 0, none⟩ 1 1 [.string ⟨#[]⟩] rfl rfl ?_ ?_ ?_ ?_ ?_ ?_)
          | (go_at_call 39; refine (HC.out _).mono ?_; rintro e wz ⟨rfl, hwz⟩; rw [hwz]; clear hwz wz)
          | go_in)
        · intro j u hj
          match j, hj with
          | 0, hj => simp at hj; subst hj; exact new_one _ _ _ _ rfl
        · intro u hu; simp at hu; subst hu; rfl
        · unfold maxLen; omega
        · omega
        · exact (hbw.alloc hbw.size _).size
        · intro v' w2 hown' hgrow _
          have hb2 := (hbw.alloc hbw.size _).grown hgrow (hbw.alloc hbw.size _).size (fun j hj => (hown.lt j hj).1)
          rw [← HS.out] at hown'
          go_wp2
          go_roundw
          case rel => exact ⟨k + 1, by go_num, by omega, hown', hb2⟩
          case measure => simp [intOf]; omega
    · have hk' : k = ds.length := by omega
      subst hk'
      rw [List.take_of_length_le (by rw [List.length_map]; exact Nat.le_refl _)] at hown
      have hge : (ds.length : Int) ≤ ds.length := Int.le_refl _
      go_wp2
      go_ret
      exact ⟨_, rfl, hown, hbw⟩
end Go.Proofs.YtdjdiiibcocmpaaGreatDoor
/- Law 58, VerifierLines: the reference's list of the texts of losses. Conditions: at most 100 of them, paths of at most 500 bytes, numbers that are ints. -/
namespace Go.Proofs.YtdjdiiibcocmpaaGreatDoor
open Go.RowKit Go.Lib
set_option maxRecDepth 1000000
set_option maxHeartbeats 6400000
theorem own_below' {w w' : World} {base : Nat} {e : TypeId} {size : Nat} {v : Value} {n : Nat} {xs : List Value} (h : w.ownsRow base e size v n xs) (hb : Below w.heap.size w w') : w'.ownsRow base e size v n xs := by
  obtain ⟨h1, h2⟩ := h
  refine ⟨h1, ?_⟩
  rcases h2 with h2 | ⟨g, cap, cur, e1, e2, e3, e4⟩
  · exact .inl h2
  · refine .inr ⟨g, cap, cur, e1, e2, ?_, e4⟩
    rw [hb.block g (Array.getElem?_eq_some_iff.1 e3).1, e3]
theorem own_slice {w : World} {base : Nat} {e : TypeId} {size : Nat} {v : Value} {n : Nat} {xs : List Value} (h : w.ownsRow base e size v n xs) : ∃ a c, v = .slice a n c := by
  rcases h.2 with ⟨rfl, rfl⟩ | ⟨g, cap, cur, rfl, _⟩
  · exact ⟨none, 0, rfl⟩
  · exact ⟨_, _, rfl⟩
theorem below_drew {B : Nat} {a w : World} (h : Below B a w) : Below B a w.drew := ⟨h.os, h.tape, h.output, h.size, h.block⟩
theorem below_drewN' {B : Nat} {a w : World} (h : Below B a w) (n : Nat) : Below B a (w.drewN n) := h.trans ⟨rfl, rfl, rfl, Nat.le_refl _, fun _ _ => rfl⟩
theorem heap_alloc_last (w : World) (o : Obj) : (w.alloc o).heap[w.heap.size]? = some o := by
  show (w.heap.push o)[w.heap.size]? = _
  simp
section
variable {P : Program}
theorem step_append_own {ops : Array Oper} {o : Oper} {a : Act} {w : World} {K : Act → World → Prop} {Q : Exit → Act → World → Prop} {E : Prop} (hgd : o.guard = none) (s x : Operand) (t : TypeId)
    (ho : o.op = .call { callee := .builtin .append, args := #[s, x], argTypes := #[t, t] })
    (base : Nat) (e : TypeId) (i : TypeInfo) (z : Value) (size bytes : Nat) (ht : P.underlying t = some (.slice e)) (hi : P.info? e = some i) (hz : i.zero = some z)
    (hsize : i.size = size) (hby : i.bytes = bytes) (hzs : z.cells.size = size) (hsz : 0 < size)
    (v : Value) (n : Nat) (xs : List Value) (hs : a.eval s = v) (hown : w.ownsRow base e size v n xs)
    (ad : Addr) (m c : Nat) (news : List Value) (hx : a.eval x = .slice (some ad) m c) (hl : news.length = m * size) (hnews : ∀ j u, news[j]? = some u → w.cell? (ad.add j) = some u) (h1 : ∀ u ∈ news, u.oneCell' = true)
    (h63 : n + m ≤ maxLen) (hbytes : (n + m) * bytes ≤ 140737488355328) (hbase : base ≤ w.heap.size)
    (h : ∀ v' w', w'.ownsRow base e size v' (n + m) (xs ++ news) → w.grownBy w' v.ownBlock → K (a.put o.dst v') w') :
    if Region.wanted o (yielded ops a.tmps) = true then Oper.wp P o a w K Q else E := by
  have hw : Region.wanted o (yielded ops a.tmps) = true := by simp [Region.wanted, hgd]
  rw [if_pos hw]
  exact wp_append_own w s x t ho base e i z size bytes ht hi hz hsize hby hzs hsz v n xs hs hown ad m c news hx hl hnews h1 h63 hbytes hbase fun v' w' h2 h3 _ => h v' w' h2 h3
end
@[simp, go_sem] def cc1 : Op := .binOp .add 9 (.tmp 16) (.const (.string ⟨#[32]⟩)) 9
@[simp, go_sem] def cc2 : Op := .binOp .add 9 (.tmp 17) (.tmp 23) 9
@[simp, go_sem] def cc3 : Op := .binOp .add 9 (.tmp 24) (.const (.string ⟨#[32]⟩)) 9
@[simp, go_sem] def cc4 : Op := .binOp .add 9 (.tmp 25) (.tmp 31) 9
/-- A loss: its path, where it begins, how long it is. -/
abbrev LossT := ByteArray × Int × Int
def lossLine (x : LossT) : ByteArray := (((x.1 ++ ⟨#[32]⟩) ++ ⟨(itoa x.2.1).toArray⟩) ++ ⟨#[32]⟩) ++ ⟨(itoa x.2.2).toArray⟩
def lossCells (l : List LossT) : List (List Value) := l.map fun d => [.string d.1, .int .i64 d.2.1, .int .i64 d.2.2]
def isInt (n : Int) : Prop := -9223372036854775808 ≤ n ∧ n ≤ 9223372036854775807
theorem r_fmt56 (ds : List LossT) (v : Value) (B : Nat) (w : World) (hv : RowV w (· < B) v 3 (lossCells ds)) (hB : B ≤ w.heap.size) (hl : ds.length ≤ 100) (hz : ∀ d ∈ ds, d.1.size ≤ 500 ∧ isInt d.2.1 ∧ isInt d.2.2) :
    Calls Tryz.prog 25 #[v] w fun e w' => ∃ o, e = .returned o ∧ w'.ownsRow w.heap.size 9 1 o ds.length (strsV (ds.map lossLine)) ∧ Below w.heap.size w w' := by
  obtain ⟨i0, hi, hz0, hz1, hz2⟩ := info_parts info_str
  obtain ⟨a, c, rfl, hrow⟩ := hv
  have hlen : (lossCells ds).length = ds.length := by simp [lossCells]
  have HROW := Lib.hid (show ∀ k, (h : k < ds.length) → ∃ b off, a = some ⟨b, off, none⟩ ∧ b < B ∧ w.cell? ⟨b, off + k * 3, none⟩ = some (.string ds[k].1) ∧ w.cell? ⟨b, off + k * 3 + 1, none⟩ = some (.int .i64 ds[k].2.1) ∧ w.cell? ⟨b, off + k * 3 + 2, none⟩ = some (.int .i64 ds[k].2.2) from fun k h => by
    obtain ⟨b, off, h1, h2, h3⟩ := hrow k (by omega)
    exact ⟨b, off, h1, h2, h3 0 _ (by simp [lossCells]), h3 1 _ (by simp [lossCells]), h3 2 _ (by simp [lossCells])⟩)
  have HZ := Lib.hid hz
  rw [hlen]
  clear hrow hlen hz
  go_enter Tryz.func25, Tryz.ntmps25
  go_wp2_with fail
  go_loopw [3, 4] (fun out i wr => OutR lossLine ds w out i wr) (fun _ i _ => ds.length - (intOf i).toNat)
  case atStart => exact ⟨0, rfl, Nat.zero_le _, World.ownsRow_nil .., Below.refl _ _⟩
  case round =>
    obtain ⟨k, rfl, hk, hown, hbw⟩ := hrel
    by_cases hlt : k < ds.length
    · have hi' : (k : Int) < ds.length := by omega
      obtain ⟨b, off, rfl, hbB, hc0, hc1, hc2⟩ := HROW.out k hlt
      have c0 := (hbw.cell (Nat.lt_of_lt_of_le hbB hB)).trans hc0
      have c1 := (hbw.cell (Nat.lt_of_lt_of_le hbB hB)).trans hc1
      have c2 := (hbw.cell (Nat.lt_of_lt_of_le hbB hB)).trans hc2
      obtain ⟨hpz, ho, hn⟩ := HZ.out ds[k] (List.getElem_mem hlt)
      have HS := Lib.hid (show strsV ((ds.map lossLine).take (k + 1)) = strsV ((ds.map lossLine).take k) ++ [.string ((((ds[k].1 ++ ⟨#[32]⟩) ++ ⟨(itoa ds[k].2.1).toArray⟩) ++ ⟨#[32]⟩) ++ ⟨(itoa ds[k].2.2).toArray⟩)] by rw [map_take_snoc lossLine ds k hlt, strsV_snoc]; rfl)
      have z1 := itoa_length_le _ ho.1 ho.2
      have z2 := itoa_length_le _ hn.1 hn.2
      have HC1 := Lib.hid (fun W : World => r_decimal _ _ (Nat.le_refl _) ho.1 ho.2 W)
      have HC2 := Lib.hid (fun W : World => r_decimal _ _ (Nat.le_refl _) hn.1 hn.2 W)
      have HC0 := Lib.hid (show w.cell? ⟨b, off + k * 3, none⟩ = some (.string ds[k].1) ∧ w.cell? ⟨b, off + k * 3 + 1, none⟩ = some (.int .i64 ds[k].2.1) ∧ w.cell? ⟨b, off + k * 3 + 2, none⟩ = some (.int .i64 ds[k].2.2) from ⟨hc0, hc1, hc2⟩)
      clear hc0 hc1 hc2 ho hn
      generalize ds[k].1 = p at *
      generalize ds[k].2.1 = q at *
      generalize ds[k].2.2 = r at *
      have g6 : ((9223372036854775807 : Int) < (p.size : Int) + 1) = False := eq_false (by omega)
      have g13 : ((9223372036854775807 : Int) < (p.size : Int) + 1 + ((itoa q).length : Int)) = False := eq_false (by omega)
      have g14 : ((9223372036854775807 : Int) < (p.size : Int) + 1 + ((itoa q).length : Int) + 1) = False := eq_false (by omega)
      have g21 : ((9223372036854775807 : Int) < (p.size : Int) + 1 + ((itoa q).length : Int) + 1 + ((itoa r).length : Int)) = False := eq_false (by omega)
      obtain ⟨oa, oc, rfl⟩ := own_slice hown
      have hal := fun n o => (below_drewN' (Below.refl wr.heap.size wr) n).trans ((below_alloc1 (wr.drewN n) o).mono (Nat.le_refl _))
      have c0A := fun n o => ((hal n o).cell (World.block_lt_of_cell? _ _ c0)).trans c0
      have c1A := fun n o => ((hal n o).cell (World.block_lt_of_cell? _ _ c1)).trans c1
      have c2A := fun n o => ((hal n o).cell (World.block_lt_of_cell? _ _ c2)).trans c2
      have HAL := Lib.hid hal
      have HOWN := Lib.hid hown
      have HBW := Lib.hid hbw
      have HK := Lib.hid hk
      clear hown hbw hal
      go_upto_region 5 with (fail)
      rw [show (Op.binOp .add 9 (.tmp 16) (.const (.string ⟨#[32]⟩)) 9) = cc1 from rfl, show (Op.binOp .add 9 (.tmp 17) (.tmp 23) 9) = cc2 from rfl, show (Op.binOp .add 9 (.tmp 24) (.const (.string ⟨#[32]⟩)) 9) = cc3 from rfl, show (Op.binOp .add 9 (.tmp 25) (.tmp 31) 9) = cc4 from rfl]
      go_region_held3 (fun W => W.cell? ⟨b, off + k * 3, none⟩ = some (.string p) ∧ W.cell? ⟨b, off + k * 3 + 1, none⟩ = some (.int .i64 q) ∧ W.cell? ⟨b, off + k * 3 + 2, none⟩ = some (.int .i64 r))
        (first | exact KS8.out | simp [c0, c1, c2, c0A, c1A, c2A])
        (first
        | (refine step_append_own rfl _ _ 39 rfl w.heap.size 9 i0 (.string ⟨#[]⟩) 1 16 Tryz.underlying39 hi hz0 hz1 hz2 rfl (by decide) (.slice oa k oc) k (strsV ((ds.map lossLine).take k)) rfl ?_ ⟨wr.heap.size, 0, none⟩ 1 1 [.string ((((p ++ ⟨#[32]⟩) ++ ⟨(itoa q).toArray⟩) ++ ⟨#[32]⟩) ++ ⟨(itoa r).toArray⟩)] rfl rfl ?_ ?_ ?_ ?_ ?_ ?_
           · first | exact own_below' HOWN.out (HAL.out _ _) | exact own_below' HOWN.out (below_alloc1 _ _)
           · exact World.news_of_block (fr := (0, 0)) (heap_alloc_last _ _)
           · intro u hu
             simp only [List.mem_cons, List.not_mem_nil, or_false] at hu
             subst hu; rfl
           · unfold maxLen; omega
           · omega
           · exact Nat.le_trans HBW.out.size (HAL.out _ _).size
           intro v8 w8 hown8 hgrow8
           have hb8 := ((HBW.out.trans ((HAL.out _ _).mono HBW.out.size))).grown hgrow8 (Nat.le_trans HBW.out.size (HAL.out _ _).size) (fun j hj => (HOWN.out.lt j hj).1)
           have KS8 := Lib.hid (show _ ∧ _ ∧ _ from ⟨(hb8.cell (Nat.lt_of_lt_of_le hbB hB)).trans HC0.out.1, (hb8.cell (Nat.lt_of_lt_of_le hbB hB)).trans HC0.out.2.1, (hb8.cell (Nat.lt_of_lt_of_le hbB hB)).trans HC0.out.2.2⟩)
           rw [← HS.out] at hown8
           have HO8 := Lib.hid hown8
           have HB8 := Lib.hid hb8
           clear hown8 hb8 hgrow8)
        | (go_at_call 22; (first | (with_reducible refine (HC1.out _).mono ?_) | (with_reducible refine (HC2.out _).mono ?_)); rintro e wz ⟨rfl, mz, rfl⟩))
      all_goals
        go_wp2
        go_roundw
        case rel => exact ⟨k + 1, by go_num, by omega, HO8.out, HB8.out⟩
        case measure => simp [intOf]; omega
    · have hk' : k = ds.length := by omega
      subst hk'
      rw [List.take_of_length_le (by rw [List.length_map]; exact Nat.le_refl _)] at hown
      have hge : (ds.length : Int) ≤ ds.length := Int.le_refl _
      go_wp2
      go_ret
      exact ⟨_, rfl, hown, hbw⟩
end Go.Proofs.YtdjdiiibcocmpaaGreatDoor
/- Law 45, directories: a struct into its block and out of it, as one step of a walk. -/
namespace Go.Proofs.YtdjdiiibcocmpaaGreatDoor
open Go.RowKit
theorem wpList_store_row {P : Program} {w : World} {ops : Array Oper} {rest : List Oper} {o : Oper} {a : Act} {Q : Exit → Act → World → Prop} (hgd : o.guard = none) (p x : Operand) (ty : TypeId) (ho : o.op = .store ty p x)
    (g : Nat) (t : TypeId) (old vs : Array Value) (hp : a.eval p = .pointer (some ⟨g, 0, none⟩)) (hx : a.eval x = .agg vs) (hg : w.heap[g]? = some (.cells old t (0, 0))) (n : Nat) (hi : (P.info? ty).map (·.size) = some n)
    (hs : old.size = n) (hv : vs.size = n) (h1 : vs.all (·.oneCell') = true) (h : wpList P ops Q rest (a.put o.dst undef) (w.setRow g vs)) : wpList P ops Q (o :: rest) a w :=
  wpList_plain hgd fun K hK => by
    have hr := run_storeVar_row (P := P) w g t ty old vs hg (by rw [hv]; exact hi) (by rw [hv]; exact hs) h1
    unfold Oper.wp execOp
    simp only [ho, Instr.storeAt, Instr.sureAddr, Sem.run_bind, Sem.run_pure, Result.andThen_ok, hp, hx, hr]
    exact hK _ _ h
theorem wpList_load_row {P : Program} {w : World} {ops : Array Oper} {rest : List Oper} {o : Oper} {a : Act} {Q : Exit → Act → World → Prop} (hgd : o.guard = none) (p : Operand) (ty : TypeId) (ho : o.op = .load ty p)
    (g : Nat) (t : TypeId) (vs : Array Value) (d : TypeDesc) (hp : a.eval p = .pointer (some ⟨g, 0, none⟩)) (hg : w.heap[g]? = some (.cells vs t (0, 0))) (hu : P.underlying ty = some d)
    (hd : (match d with | .struct _ | .array _ _ => true | _ => false) = true) (n : Nat) (hi : (P.info? ty).map (·.size) = some n) (hv : vs.size = n) (h : wpList P ops Q rest (a.put o.dst (.agg vs)) w) : wpList P ops Q (o :: rest) a w :=
  wpList_plain hgd fun K hK => by
    have hr := run_loadVar_row (P := P) w g t ty vs (0, 0) d hg hu hd (by rw [hv]; exact hi)
    unfold Oper.wp execOp
    simp only [ho, Instr.loadAt, Instr.sureAddr, Sem.run_bind, Sem.run_pure, Result.andThen_ok, hp, hr]
    exact hK _ _ h
theorem results_cell3 {P : Program} {fn : Func} {t u v : Tmp} {ty : TypeId} (h : fn.results = #[.cell t ty, .tmp u, .tmp v]) (tmps : Array Value) (w : World) (a : Addr) (x : Value) (hp : tmps.getD t undef = .pointer (some a)) (hL : (loadVar ty a).run P w = .ok x w) :
    (results fn tmps).run P w = .ok (.tuple #[x, tmps.getD u undef, tmps.getD v undef]) w := by
  have hp' : tmps[t]?.getD undef = .pointer (some a) := by rw [← hp]; simp
  simp [results, h, hp', asAddr, hL]
theorem run_storeCells_row {P : Program} (w : World) (g : Nat) (t : TypeId) (old vs : Array Value) (hg : w.heap[g]? = some (.cells old t (0, 0))) (hs : old.size = vs.size) (h1 : vs.all (·.oneCell') = true) :
    (storeCells ⟨g, 0, none⟩ vs.toList 0).run P w = .ok () (w.setRow g vs) := by
  have := run_storeCells_from (P := P) g t vs.toList 0 old w hg (by simp; omega) (fun v hv => (Array.all_eq_true_iff_forall_mem.1 h1) v (by simpa using hv))
  simpa using this
theorem heap_setRow_other {w : World} {g k : Nat} {cs : Array Value} {o : Obj} (h : w.heap[k]? = some o) (hne : k ≠ g) : (w.setRow g cs).heap[k]? = some o := by rw [setRow_other w g k cs hne, h]
end Go.Proofs.YtdjdiiibcocmpaaGreatDoor
