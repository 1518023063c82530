/- Law 45, UdfcheckDirectories: walks of the program: checksums, tags. -/
import Derived.Test.YtmgbbnnjbgemdaaGreatDoorDira
import Derived.OneCell
import Derived.Test.YtmgbbnnjbgemdaaGreatDoorBase
import Derived.Deep.WholeRow
import Derived.StillTailTactics
import Derived.Deep.RegionWith
/- Law 45, directories: the program's sums and numbers: what they compute. -/
namespace Go.Proofs.YtmgbbnnjbgemdaaGreatDoor
open Go.RowKit
set_option maxHeartbeats 400000 in
theorem p_sum8 (s : ByteArray) (w : World) (hs : s.size ≤ 65536) :
    Calls Tryz.prog 475 #[.string s] w fun e w' => e = .returned (.int .u8 (sum8 s.data.toList)) ∧ w' = w := by
  go_enter Tryz.func475, Tryz.ntmps475
  go_wp2
  go_loop [3, 7] (fun n i => ∃ k : Nat, k ≤ s.size ∧ i = .int .i64 k ∧ n = .int .u8 (sum8 (s.data.toList.take k))) (fun _ i => s.size - (intOf i).toNat)
  case atStart => exact ⟨0, Nat.zero_le _, rfl, rfl⟩
  case round =>
    obtain ⟨k, hk, rfl, rfl⟩ := hrel
    have hl := sum8_lt (s.data.toList.take k)
    by_cases hlt : k < s.size
    · have hb : s[k].toNat < 256 := UInt8.toNat_lt _
      have HS : Hid (((sum8 (s.data.toList.take (k + 1)) : Nat) : Int) = ((sum8 (s.data.toList.take k) : Nat) + (s[k].toNat : Int)) % 256) := by
        show _ = _
        rw [take_snoc s k hlt, sum8_snoc]; simp
      generalize sum8 (s.data.toList.take k) = q at *
      go_wp2
      go_round
      case rel => exact ⟨k + 1, by omega, by go_num, by rw [HS.out]⟩
      case measure => simp [intOf]; omega
    · have hkl : k = s.size := by omega
      subst hkl
      go_wp2
      go_ret
      exact ⟨ret_int (by rw [List.take_of_length_le (by simp)]), rfl⟩
theorem or_zero (n : Nat) (h : n < 256) : bits .or .u64 0 (n : Int) = (n : Int) := by
  have := u64_or_nat 0 n (by omega) (by omega)
  simpa using this
theorem or_k (i a b : Nat) (ha : a < 2 ^ i) (hb : b < 256) (hi : i ≤ 24) : bits .or .u64 (a : Int) ((b * 2 ^ i : Nat) : Int) = ((a + b * 2 ^ i : Nat) : Int) := by
  have hp : 2 ^ i ≤ 2 ^ 24 := Nat.pow_le_pow_right (by omega) hi
  have h1 : b * 2 ^ i ≤ 255 * 2 ^ 24 := Nat.mul_le_mul (by omega) hp
  rw [u64_or_nat a (b * 2 ^ i) (by omega) (by omega), Nat.or_comm, nat_join i (b * 2 ^ i) a (Nat.mul_mod_left _ _) ha, Nat.add_comm]
theorem or_8 (a b : Nat) (ha : a < 256) (hb : b < 256) : bits .or .u64 (a : Int) ((b : Int) * 256) = (a : Int) + (b : Int) * 256 := by
  have := or_k 8 a b ha hb (by omega)
  rw [show (b : Int) * 256 = ((b * 2 ^ 8 : Nat) : Int) by omega, this]
  omega
theorem or_16 (a a1 b : Nat) (ha : a < 256) (ha1 : a1 < 256) (hb : b < 256) : bits .or .u64 ((a : Int) + (a1 : Int) * 256) ((b : Int) * 65536) = (a : Int) + (a1 : Int) * 256 + (b : Int) * 65536 := by
  have := or_k 16 (a + a1 * 256) b (by omega) hb (by omega)
  rw [show (b : Int) * 65536 = ((b * 2 ^ 16 : Nat) : Int) by omega, show (a : Int) + (a1 : Int) * 256 = ((a + a1 * 256 : Nat) : Int) by omega, this]
  omega
theorem or_24 (a a1 a2 b : Nat) (ha : a < 256) (ha1 : a1 < 256) (ha2 : a2 < 256) (hb : b < 256) : bits .or .u64 ((a : Int) + (a1 : Int) * 256 + (a2 : Int) * 65536) ((b : Int) * 16777216) = (a : Int) + (a1 : Int) * 256 + (a2 : Int) * 65536 + (b : Int) * 16777216 := by
  have := or_k 24 (a + a1 * 256 + a2 * 65536) b (by omega) hb (by omega)
  rw [show (b : Int) * 16777216 = ((b * 2 ^ 24 : Nat) : Int) by omega, show (a : Int) + (a1 : Int) * 256 + (a2 : Int) * 65536 = ((a + a1 * 256 + a2 * 65536 : Nat) : Int) by omega, this]
  omega
theorem ret_two {a b : Int} (h : a = b) : Ending.returned (.tuple #[.int .i64 a, .int .i64 0]) = .returned (.tuple #[.int .i64 b, .int .i64 0]) := by rw [h]
set_option maxHeartbeats 800000 in
set_option maxRecDepth 1000000 in
theorem p_rl1 (s : ByteArray) (i : Nat) (w : World) (h : i + 1 ≤ s.size) (hs : s.size ≤ 65536) :
    Calls Tryz.prog 104 #[.string s, .int .i64 i, .int .i64 1] w fun e w' => e = .returned (.tuple #[.int .i64 (num s.data.toList i 1), .int .i64 0]) ∧ w' = w := by
  have hb : s[i].toNat < 256 := UInt8.toNat_lt _
  have HG := Lib.hid (nb_get s i (by omega))
  have hi1 : (i : Int) ≤ (s.size : Int) - 1 := by omega
  have hi2 : decide ((i : Int) ≤ (s.size : Int) - 1) = true := by simp; omega
  have hO := or_zero s[i].toNat hb
  go_enter Tryz.func104, Tryz.ntmps104
  go_wp2
  refine wp_loop_rounds 2 ?_
  rw [rounds_succ]
  go_wp2
  rw [rounds_succ]
  go_wp2
  go_ret2
  exact ⟨ret_two (by rw [num1, HG.out]), rfl⟩
set_option maxHeartbeats 800000 in
set_option maxRecDepth 1000000 in
theorem p_rl2 (s : ByteArray) (i : Nat) (w : World) (h : i + 2 ≤ s.size) (hs : s.size ≤ 65536) :
    Calls Tryz.prog 104 #[.string s, .int .i64 i, .int .i64 2] w fun e w' => e = .returned (.tuple #[.int .i64 (num s.data.toList i 2), .int .i64 0]) ∧ w' = w := by
  have hb : s[i].toNat < 256 := UInt8.toNat_lt _
  have hb1 : s[i + 1].toNat < 256 := UInt8.toNat_lt _
  have HG := Lib.hid (nb_get s i (by omega))
  have HG1 := Lib.hid (nb_get s (i + 1) (by omega))
  have hi1 : (i : Int) ≤ (s.size : Int) - 2 := by omega
  have hi2 : decide ((i : Int) ≤ (s.size : Int) - 2) = true := by simp; omega
  have hO := or_zero s[i].toNat hb
  have hO1 := or_8 _ _ hb hb1
  go_enter Tryz.func104, Tryz.ntmps104
  go_wp2
  refine wp_loop_rounds 3 ?_
  rw [rounds_succ]
  go_wp2
  rw [rounds_succ]
  go_wp2
  rw [rounds_succ]
  go_wp2
  go_ret2
  exact ⟨ret_two (by rw [num2, ← HG.out, ← HG1.out]; omega), rfl⟩
set_option maxHeartbeats 1600000 in
set_option maxRecDepth 1000000 in
theorem p_rl4 (s : ByteArray) (i : Nat) (w : World) (h : i + 4 ≤ s.size) (hs : s.size ≤ 65536) :
    Calls Tryz.prog 104 #[.string s, .int .i64 i, .int .i64 4] w fun e w' => e = .returned (.tuple #[.int .i64 (num s.data.toList i 4), .int .i64 0]) ∧ w' = w := by
  have hb : s[i].toNat < 256 := UInt8.toNat_lt _
  have hb1 : s[i + 1].toNat < 256 := UInt8.toNat_lt _
  have hb2 : s[i + 2].toNat < 256 := UInt8.toNat_lt _
  have hb3 : s[i + 3].toNat < 256 := UInt8.toNat_lt _
  have HG := Lib.hid (nb_get s i (by omega))
  have HG1 := Lib.hid (nb_get s (i + 1) (by omega))
  have HG2 := Lib.hid (nb_get s (i + 2) (by omega))
  have HG3 := Lib.hid (nb_get s (i + 3) (by omega))
  have hi1 : (i : Int) ≤ (s.size : Int) - 4 := by omega
  have hi2 : decide ((i : Int) ≤ (s.size : Int) - 4) = true := by simp; omega
  have hO := or_zero s[i].toNat hb
  have hO1 := or_8 _ _ hb hb1
  have hO2 := or_16 _ _ _ hb hb1 hb2
  have hO3 := or_24 _ _ _ _ hb hb1 hb2 hb3
  go_enter Tryz.func104, Tryz.ntmps104
  go_wp2
  refine wp_loop_rounds 5 ?_
  rw [rounds_succ]
  go_wp2
  rw [rounds_succ]
  go_wp2
  rw [rounds_succ]
  go_wp2
  rw [rounds_succ]
  go_wp2
  rw [rounds_succ]
  go_wp2
  go_ret2
  exact ⟨ret_two (by rw [num4, ← HG.out, ← HG1.out, ← HG2.out, ← HG3.out]; omega), rfl⟩
end Go.Proofs.YtmgbbnnjbgemdaaGreatDoor

/- Law 45, directories: the program's fields of a tag, its sum. -/
namespace Go.Proofs.YtmgbbnnjbgemdaaGreatDoor
open Go.RowKit
theorem p_read2 (s : ByteArray) (i : Nat) (w : World) (h : i + 2 ≤ s.size) (hs : s.size ≤ 65536) :
    Calls Tryz.prog 363 #[.string s, .int .i64 i, .int .i64 2] w fun e w' => e = .returned (.int .i64 (num s.data.toList i 2)) ∧ w' = w := by
  have HR := Lib.hid (fun W : World => p_rl2 s i W h hs)
  go_enter Tryz.func363, Tryz.ntmps363
  go_wp2_with fail
  refine (HR.out _).mono ?_
  rintro e w1 ⟨rfl, rfl⟩
  go_wp2
  go_ret
  exact ⟨rfl, rfl⟩
theorem p_read4 (s : ByteArray) (i : Nat) (w : World) (h : i + 4 ≤ s.size) (hs : s.size ≤ 65536) :
    Calls Tryz.prog 363 #[.string s, .int .i64 i, .int .i64 4] w fun e w' => e = .returned (.int .i64 (num s.data.toList i 4)) ∧ w' = w := by
  have HR := Lib.hid (fun W : World => p_rl4 s i W h hs)
  go_enter Tryz.func363, Tryz.ntmps363
  go_wp2_with fail
  refine (HR.out _).mono ?_
  rintro e w1 ⟨rfl, rfl⟩
  go_wp2
  go_ret
  exact ⟨rfl, rfl⟩
set_option maxHeartbeats 400000 in
theorem p_sum (s : ByteArray) (w : World) (h : 16 ≤ s.size) (hs : s.size ≤ 65536) :
    Calls Tryz.prog 364 #[.string s] w fun e w' => e = .returned (.int .u8 (sum8 (s.data.toList.take 4 ++ (s.data.toList.drop 5).take 11))) ∧ ∃ n, w' = w.drewN n := by
  have hc := sum_cut s
  have hz := sum_cut_size s h
  rw [← hc]
  clear hc
  go_enter Tryz.func364, Tryz.ntmps364
  go_wp2
  go_quiet ((go_at_call 475; exact Calls.quiet_of_same (p_sum8 _ _ (by rw [hz]; omega))))
  go_wp2
  go_ret
  exact ⟨rfl, _, rfl⟩
/-- The fields of a tag. -/
def tagV (l : List UInt8) : Value := .agg #[.int .i64 (num l 0 2), .int .i64 (num l 6 2), .int .i64 (num l 10 2), .int .i64 (num l 12 4)]
set_option maxHeartbeats 800000 in
theorem p_values (s : ByteArray) (w : World) (h : 16 ≤ s.size) (hs : s.size ≤ 65536) :
    Calls Tryz.prog 207 #[.string s] w fun e w' => e = .returned (tagV s.data.toList) ∧ Below w.heap.size w w' := by
  have HR := Lib.hid (fun (i : Nat) (hi : i + 2 ≤ s.size) (W : World) => p_read2 s i W hi hs)
  have HR4 := Lib.hid (fun W : World => p_read4 s 12 W (by omega) hs)
  go_enter Tryz.func207, Tryz.ntmps207
  go_wp2_with fail
  refine (HR.out 0 (by omega) _).mono ?_
  rintro e w1 ⟨rfl, rfl⟩
  go_wp2_with fail
  refine (HR.out 6 (by omega) _).mono ?_
  rintro e w2 ⟨rfl, rfl⟩
  go_wp2_with fail
  refine (HR.out 10 (by omega) _).mono ?_
  rintro e w3 ⟨rfl, rfl⟩
  go_wp2_with fail
  refine (HR4.out _).mono ?_
  rintro e w4 ⟨rfl, rfl⟩
  go_wp2
  exact bodyPost_ret (v := tagV s.data.toList) (by simp [tagV, results, Tryz.results207, go_sem]) rfl ⟨rfl, (Below.refl _ _).alloc (Nat.le_refl _) _⟩
end Go.Proofs.YtmgbbnnjbgemdaaGreatDoor

/- Law 45, directories: the program's list of faults: the closure that adds one. -/
namespace Go.Proofs.YtmgbbnnjbgemdaaGreatDoor
open Go.RowKit
/-- Block g holds the list of faults: empty or not. -/
def PRel (k : Nat) (w : World) (g : Nat) (ok : Bool) (wx : World) : Prop := ∃ (v : Value) (n : Nat) (xs : List Value), wx.heap[g]? = some (.cells #[v] 22 (0, 0)) ∧ wx.ownsRow w.heap.size 3 1 v n xs ∧ n ≤ k ∧ decide (n = 0) = ok ∧ Below w.heap.size w wx
theorem own_ne {w : World} {base : Nat} {v u : Value} {n : Nat} {xs : List Value} {g : Nat} (h : w.ownsRow base 3 1 v n xs) (hg : w.heap[g]? = some (.cells #[u] 22 (0, 0))) : v.ownBlock ≠ some g := by
  rcases h.2 with ⟨rfl, _⟩ | ⟨g', cap, cur, rfl, _, hh, _⟩
  · simp [Value.ownBlock]
  · intro he
    have e : g' = g := by simpa [Value.ownBlock] using he
    subst e
    rw [hg] at hh
    injection hh with hh
    injection hh with _ h2
    exact absurd h2 (by decide)
theorem own_slice {w : World} {base : Nat} {e : TypeId} {v : Value} {n : Nat} {xs : List Value} (h : w.ownsRow base e 1 v n xs) : ∃ (a : Option Addr) (m c : Nat), v = .slice a m c := by
  rcases h.2 with ⟨rfl, _⟩ | ⟨g', cap, cur, rfl, _⟩
  · exact ⟨_, _, _, rfl⟩
  · exact ⟨_, _, _, rfl⟩
/-- Blocks of other types are as they were. -/
def KeepT (w w' : World) : Prop := ∀ (b : Nat) (cs : Array Value) (ty : TypeId), ty ≠ 3 → ty ≠ 22 → w.heap[b]? = some (.cells cs ty (0, 0)) → w'.heap[b]? = some (.cells cs ty (0, 0))
theorem KeepT.refl (w : World) : KeepT w w := fun _ _ _ _ _ h => h
theorem own_ne' {w : World} {base : Nat} {v : Value} {n : Nat} {xs : List Value} {b : Nat} {cs : Array Value} {ty : TypeId} (h : w.ownsRow base 3 1 v n xs) (hg : w.heap[b]? = some (.cells cs ty (0, 0))) (hne : ty ≠ 3) : v.ownBlock ≠ some b := by
  rcases h.2 with ⟨rfl, _⟩ | ⟨g', cap, cur, rfl, _, hh, _⟩
  · simp [Value.ownBlock]
  · intro he
    have e : g' = b := by simpa [Value.ownBlock] using he
    subst e
    rw [hg] at hh
    injection hh with hh
    injection hh with _ h2
    exact hne h2
theorem keep_push {wx w2 : World} {base g : Nat} {v v' : Value} {n : Nat} {xs : List Value} (hg : wx.heap[g]? = some (.cells #[v] 22 (0, 0))) (o : Obj) (hown : wx.ownsRow base 3 1 v n xs) (hgr : (wx.alloc o).grownBy w2 v.ownBlock) : KeepT wx (w2.setCell ⟨g, 0, none⟩ v') := by
  intro b cs ty h3 h25 hb
  have h1 : (wx.alloc o).heap[b]? = some (.cells cs ty (0, 0)) := (Below.heap_alloc wx o b (lt_of_block hb)).trans hb
  have h2 : w2.heap[b]? = some (.cells cs ty (0, 0)) := (hgr.block b (lt_of_block h1) (fun e => own_ne' hown hb h3 e.symm)).trans h1
  refine (Below.heap_setCell w2 ⟨g, 0, none⟩ v' b ?_).trans h2
  rintro rfl
  rw [hg] at hb
  injection hb with hb
  injection hb with _ hb2
  exact h25 hb2.symm
/-- What is left when a fault has been added. -/
theorem PRel.push {k : Nat} {w wx W w2 : World} {g : Nat} {v v' : Value} {n : Nat} {xs ys : List Value} (hgw : w.heap.size ≤ g) (hg : wx.heap[g]? = some (.cells #[v] 22 (0, 0))) (o : Obj) (hW : W = wx.alloc o) (hown : wx.ownsRow w.heap.size 3 1 v n xs) (hn : n ≤ k)
    (hb : Below w.heap.size w wx) (hown' : w2.ownsRow w.heap.size 3 1 v' (n + 1) ys) (hgr : W.grownBy w2 v.ownBlock) : PRel (k + 1) w g false (w2.setCell ⟨g, 0, none⟩ v') := by
  subst hW
  have hlt := lt_of_block hg
  have hg1 : (wx.alloc o).heap[g]? = some (.cells #[v] 22 (0, 0)) := (Below.heap_alloc wx o g hlt).trans hg
  have hg2 : w2.heap[g]? = some (.cells #[v] 22 (0, 0)) := (hgr.block g (lt_of_block hg1) (fun e => own_ne hown hg e.symm)).trans hg1
  exact ⟨v', n + 1, ys, one_setCell hg2, ownsRow_setCell_other hown' (own_ne hown' hg2) _, by omega, by simp,
    ((hb.alloc hb.size o).grown hgr (hb.alloc hb.size o).size (fun j hj => (hown.lt j hj).1)).setCell hgw _⟩
set_option maxHeartbeats 800000 in
set_option maxRecDepth 1000000 in
theorem p_add (k : Nat) (w0 : World) (g : Nat) (ok holds : Bool) (c : Int) (w : World) (hk : k ≤ 8) (hgw : w0.heap.size ≤ g) (h : PRel k w0 g ok w) :
    Calls Tryz.prog 362 #[.int .i64 c, .bool holds, .pointer (some ⟨g, 0, none⟩)] w fun e w' => e = .returned (.bool holds) ∧ PRel (k + 1) w0 g (ok && !holds) w' ∧ KeepT w w' := by
  obtain ⟨v, n, xs, hg, hown, hn, hok, hb⟩ := h
  obtain ⟨i0, hi, hz0, hz1, hz2⟩ := info_parts info_int
  have hc := cell_of_one hg
  have hf := free_of_one hg
  have HOK := Lib.hid hok
  clear hok
  cases holds
  · go_enter Tryz.func362, Tryz.ntmps362
    go_wp2
    go_ret
    exact ⟨rfl, ⟨v, n, xs, hg, hown, by omega, by rw [HOK.out]; simp, hb⟩, KeepT.refl _⟩
  · have hlt := lt_of_block hg
    go_enter Tryz.func362, Tryz.ntmps362
    go_wp2_with (first
      | (at_builtin; refine wpList_append_own _ rfl _ _ 22 rfl w0.heap.size 3 i0 (.int .i64 0) 1 8 Tryz.underlying22 hi hz0 hz1 hz2 rfl (by decide) _ _ _ rfl (hown.alloc _) ⟨w.heap.size, 0, none⟩ 1 1 [.int .i64 c] rfl rfl ?_ ?_ ?_ ?_ ?_ ?_)
      | go_in)
    · intro j u hj
      match j, hj with
      | 0, hj => simp at hj; subst hj; exact new_one _ _ _ _ rfl
    · intro u hu; simp at hu; subst hu; rfl
    · unfold maxLen; omega
    · omega
    · exact (hb.alloc hb.size _).size
    · intro v' w2 hown' hgrow _
      have hout := PRel.push hgw hg _ rfl hown hn hb hown' hgrow
      have hkeep := keep_push (v' := v') hg _ hown hgrow
      obtain ⟨a1, m1, c1, rfl⟩ := own_slice hown'
      have hg1 : (w.alloc (.cells #[.int .i64 c] 3)).heap[g]? = some (.cells #[v] 22 (0, 0)) := (Below.heap_alloc w _ g hlt).trans hg
      have hg2 : w2.heap[g]? = some (.cells #[v] 22 (0, 0)) := (hgrow.block g (lt_of_block hg1) (fun e => own_ne hown hg e.symm)).trans hg1
      have hc2 := cell_of_one hg2
      have hf2 := free_of_one hg2
      clear hgrow hown' hg1 hg2 hg hown hb
      go_wp2
      go_ret
      exact ⟨rfl, by rw [Bool.not_true, Bool.and_false]; exact hout, hkeep⟩
end Go.Proofs.YtmgbbnnjbgemdaaGreatDoor

/- Law 45, directories: the program's table of the CRC. -/
namespace Go.Proofs.YtmgbbnnjbgemdaaGreatDoor
open Go Go.Ev Go.Proofs
open Go.RowKit (Below)
/-- The table as the model holds it. -/
def tabV : Array Value := ((List.range 256).map fun b => Value.int .u16 (cbits 8 (b * 256) : Nat)).toArray
theorem tab_conc (σ : Sg) : conc σ crcTab = some (.agg tabV) := by kernel_rfl
theorem direct_calls (w : World) : Calls pg 555 #[] w fun e u => e = .returned (.agg tabV) ∧ Below w.heap.size w u := by
  have h := (memo_spec (callN_sound hX hnoS mixed 20) rfl (bcId run_direct) E0).2 (fun b => b < w.heap.size) w (fun _ => none) w [] rfl
    ⟨Nat.le_refl _, rfl, rfl, rfl, fun b hb => ⟨hb, rfl⟩, fun id e he => (by cases he), fun id e he => (by cases he), fun i j a b ha => (by cases ha)⟩
  refine h.mono fun en u hp => ?_
  obtain ⟨x, rfl, τ, _, g2, g3⟩ := callPost_ret hp
  rw [tab_conc] at g2
  exact ⟨by rw [← Option.some.inj g2], g3.os, g3.tape, g3.output, g3.size, fun b hb => (g3.prot b hb).2⟩
end Go.Proofs.YtmgbbnnjbgemdaaGreatDoor

/- Law 45, directories: the program's CRC. -/
namespace Go.Proofs.YtmgbbnnjbgemdaaGreatDoor
open Go.RowKit
set_option maxHeartbeats 800000 in
set_option maxRecDepth 1000000 in
theorem p_crc (s : ByteArray) (w : World) (hs : s.size ≤ 65536) :
    Calls Tryz.prog 476 #[.int .u16 0, .string s] w fun e w' => e = .returned (.int .u16 (crcOf s.data.toList)) ∧ Below w.heap.size w w' := by
  have HD := Lib.hid (fun W : World => direct_calls W)
  have hsz : tabV.size = 256 := by simp [tabV]
  have HZ := Lib.hid hsz
  clear hsz
  generalize htv : tabV = tv at *
  go_enter Tryz.func476, Tryz.ntmps476
  go_wp2_with fail
  refine (HD.out _).mono ?_
  rintro e w1 ⟨rfl, hb1⟩
  have hone : tv.all (·.oneCell') = true := by
    rw [← htv, tabV, List.all_toArray, List.all_map, List.all_eq_true]
    intro b _
    rfl
  have hrun := run_storeCells_new (P := Tryz.prog) w1 596 Tryz.zeroCells596 tv (by rw [HZ.out]; kernel_rfl) (by rw [HZ.out]; kernel_rfl) hone
  have hcell : Hid (∀ i : Nat, i < 256 → (w1.alloc (Obj.cells tv 596)).cell? { block := w1.heap.size, off := i } = some (.int .u16 (cbits 8 (i * 256) : Nat))) := by
    intro i hi
    subst htv
    rw [World.cell?_alloc_at _ _ _ _ rfl]
    simp [tabV, hi]
  have hbW : Hid (Below w.heap.size w (w1.alloc (Obj.cells tv 596))) := hb1.alloc hb1.size _
  go_wp2_with fail
  generalize hW : w1.alloc (Obj.cells tv 596) = W at *
  clear hrun hone
  go_loop [0, 10] (fun c i => ∃ k : Nat, k ≤ s.size ∧ i = .int .i64 k ∧ c = .int .u16 (crcOf (s.data.toList.take k))) (fun _ i => s.size - (intOf i).toNat)
  case atStart => exact ⟨0, Nat.zero_le _, rfl, rfl⟩
  case round =>
    obtain ⟨k, hk, rfl, rfl⟩ := hrel
    have hl := crcOf_lt (s.data.toList.take k)
    by_cases hlt : k < s.size
    · have hb : s[k].toNat < 256 := UInt8.toNat_lt _
      have HS : Hid (crcOf (s.data.toList.take (k + 1)) = (crcOf (s.data.toList.take k) * 256 % 65536) ^^^ cbits 8 (((crcOf (s.data.toList.take k) / 256) ^^^ s[k].toNat) * 256)) := by
        rw [take_snoc s k hlt, crcOf_snoc, cbyte_tab _ _ hl]; rfl
      generalize crcOf (s.data.toList.take k) = q at *
      have hx : (q / 256) ^^^ s[k].toNat < 256 := Nat.xor_lt_two_pow (n := 8) (by omega) hb
      have hX : bits .xor .u8 ((q : Int) / 256) (s[k].toNat : Int) = (((q / 256) ^^^ s[k].toNat : Nat) : Int) := by
        rw [← u8_xor_nat (q / 256) s[k].toNat (by omega) hb]; rfl
      have hin : 0 ≤ bits .xor .u8 ((q : Int) / 256) (s[k].toNat : Int) ∧ bits .xor .u8 ((q : Int) / 256) (s[k].toNat : Int) < 256 := by rw [hX]; omega
      have hc := hcell.out ((q / 256) ^^^ s[k].toNat) hx
      have hy : cbits 8 (((q / 256) ^^^ s[k].toNat) * 256) < 65536 := cbits_lt _ _ (by omega)
      go_wp2
      go_round
      case rel =>
        refine ⟨k + 1, by omega, by go_num, ?_⟩
        rw [HS.out, ← u16_xor_nat (q * 256 % 65536) _ (by omega) hy]
        first | rfl | (congr 2 <;> omega)
      case measure => simp [intOf]; omega
    · have hkl : k = s.size := by omega
      subst hkl
      go_wp2
      go_ret
      exact ⟨ret_int (by rw [List.take_of_length_le (by simp)]), hbW⟩
theorem p_crc16 (s : ByteArray) (w : World) (hs : s.size ≤ 65536) :
    Calls Tryz.prog 365 #[.string s] w fun e w' => e = .returned (.int .u16 (crcOf s.data.toList)) ∧ Below w.heap.size w w' := by
  go_enter Tryz.func365, Tryz.ntmps365
  go_wp2_with fail
  refine (p_crc s w hs).mono ?_
  rintro e w' ⟨rfl, hb⟩
  go_wp2
  go_ret
  exact ⟨rfl, hb⟩
end Go.Proofs.YtmgbbnnjbgemdaaGreatDoor

/- Law 45, directories: the program's faults of a tag. -/
namespace Go.Proofs.YtmgbbnnjbgemdaaGreatDoor
open Go.RowKit
theorem PRel.drewN {k : Nat} {w wx : World} {g : Nat} {ok : Bool} (h : PRel k w g ok wx) (n : Nat) : PRel k w g ok (wx.drewN n) := by
  obtain ⟨v, m, xs, h1, h2, h3, h4, h5⟩ := h
  exact ⟨v, m, xs, h1, h2, h3, h4, below_drewN h5 n⟩
/-- The list of faults, and the tag's fields in block gt. -/
def QRel (k : Nat) (w : World) (gt : Nat) (cs : Array Value) (ok : Bool) (wx : World) : Prop := PRel k w w.heap.size ok wx ∧ wx.heap[gt]? = some (.cells cs 313 (0, 0))
theorem QRel.next {k : Nat} {w wx w' : World} {gt : Nat} {cs : Array Value} {ok ok' : Bool} (h : QRel k w gt cs ok wx) (n : Nat) (hp : PRel (k + 1) w w.heap.size ok' w') (hk : KeepT (wx.drewN n) w') : QRel (k + 1) w gt cs ok' w' :=
  ⟨hp, hk gt cs _ (by decide) (by decide) h.2⟩
theorem own_below {w w' : World} {base : Nat} {e : TypeId} {size : Nat} {v : Value} {n : Nat} {xs : List Value} (h : w.ownsRow base e size v n xs) (hb : Below w.heap.size w w') : w'.ownsRow base e size v n xs := by
  obtain ⟨h1, h2⟩ := h
  refine ⟨h1, ?_⟩
  rcases h2 with h2 | ⟨g, cap, cur, e1, e2, e3, e4⟩
  · exact .inl h2
  · refine .inr ⟨g, cap, cur, e1, e2, ?_, e4⟩
    rw [hb.block g (Array.getElem?_eq_some_iff.1 e3).1, e3]
theorem PRel.below {k : Nat} {w wx w' : World} {g : Nat} {ok : Bool} (h : PRel k w g ok wx) (hb : Below wx.heap.size wx w') : PRel k w g ok w' := by
  obtain ⟨v, m, xs, h1, h2, h3, h4, h5⟩ := h
  exact ⟨v, m, xs, (hb.block g (lt_of_block h1)).trans h1, own_below h2 hb, h3, h4, h5.trans (hb.mono h5.size)⟩
theorem PRel.alloc {k : Nat} {w wx : World} {g : Nat} {ok : Bool} (h : PRel k w g ok wx) (o : Obj) : PRel k w g ok (wx.alloc o) := h.below ((Below.refl _ _).alloc (Nat.le_refl _) o)
theorem PRel.weaken {k : Nat} {w wx : World} {g : Nat} {ok : Bool} (h : PRel k w g ok wx) : PRel (k + 1) w g ok wx := by
  obtain ⟨v, m, xs, h1, h2, h3, h4, h5⟩ := h
  exact ⟨v, m, xs, h1, h2, by omega, h4, h5⟩
theorem PRel.lt {k : Nat} {w wx : World} {g : Nat} {ok : Bool} (h : PRel k w g ok wx) : g < wx.heap.size := by
  obtain ⟨v, m, xs, h1, _⟩ := h
  exact lt_of_block h1
set_option maxHeartbeats 1600000 in
set_option maxRecDepth 1000000 in
theorem p_faults (s : ByteArray) (loc : Int) (w : World) (h : 16 ≤ s.size) (hs : s.size ≤ 65536) :
    Calls Tryz.prog 206 #[.string s, .int .i64 loc] w fun e w' => ∃ v, e = .returned v ∧ FRel 8 w (tagFine s.data.toList loc) v w' := by
  have hV : ∀ W : World, Calls Tryz.prog 207 #[.string s] W fun e w' => e = .returned (.agg #[.int .i64 (num s.data.toList 0 2), .int .i64 (num s.data.toList 6 2), .int .i64 (num s.data.toList 10 2), .int .i64 (num s.data.toList 12 4)]) ∧ Below W.heap.size W w' := fun W => p_values s W h hs
  have HSum := Lib.hid (fun W : World => p_sum s W h hs)
  have HR2 := Lib.hid (fun W : World => p_read2 s 2 W (by omega) hs)
  have HR8 := Lib.hid (fun W : World => p_read2 s 8 W (by omega) hs)
  have hsl := sum8_lt (s.data.toList.take 4 ++ (s.data.toList.drop 5).take 11)
  have hv2 := num_lt s.data.toList 2 2
  have hln := num_lt s.data.toList 10 2
  have hn8 := num_lt s.data.toList 8 2
  have HG := Lib.hid (nb_get s 4 (by omega))
  have HT := Lib.hid (rfl : tagFine s.data.toList loc = tagFine s.data.toList loc)
  generalize hT : tagFine s.data.toList loc = tf at *
  clear HT
  unfold tagFine at hT
  rw [len_data] at hT
  generalize sum8 (s.data.toList.take 4 ++ (s.data.toList.drop 5).take 11) = q at *
  generalize num s.data.toList 0 2 = a0 at *
  generalize num s.data.toList 6 2 = a6 at *
  generalize num s.data.toList 2 2 = v2 at *
  generalize num s.data.toList 8 2 = n8 at *
  generalize num s.data.toList 12 4 = n12 at *
  generalize hln0 : num s.data.toList 10 2 = ln at *
  have HT := Lib.hid hT
  have HV := Lib.hid hV
  clear hT hV hln0
  have hb4 : s[4].toNat < 256 := UInt8.toNat_lt _
  have hi4 : (4 : Int) < (s.size : Int) := by omega
  have hj4 : 4 < s.size := by omega
  have h0 : PRel 0 w w.heap.size true (w.alloc (.cells #[.slice none 0 0] 22)) := ⟨_, 0, [], heap_alloc_new w _, World.ownsRow_nil _ _ _ _, Nat.le_refl _, rfl, (Below.refl _ _).alloc (Nat.le_refl _) _⟩
  go_enter Tryz.func206, Tryz.ntmps206
  go_wp2_with fail
  refine (HV.out _).mono ?_
  rintro e w1 ⟨rfl, hb1⟩
  go_wp2_with fail
  refine (HR2.out _).mono ?_
  rintro e w2 ⟨rfl, rfl⟩
  have h1 := (h0.below hb1).alloc (.cells #[.int .i64 a0, .int .i64 a6, .int .i64 ln, .int .i64 n12] 313)
  have h2 : QRel 0 w w1.heap.size #[.int .i64 a0, .int .i64 a6, .int .i64 ln, .int .i64 n12] true (w1.alloc (.cells #[.int .i64 a0, .int .i64 a6, .int .i64 ln, .int .i64 n12] 313)) := ⟨h1, heap_alloc_new w1 _⟩
  go_upto_region 7 with (fail)
  go_cut [] (fun wx => QRel 1 w w1.heap.size #[.int .i64 a0, .int .i64 a6, .int .i64 ln, .int .i64 n12] (!((s[4].toNat : Int) != (q : Int))) wx)
  case first =>
    go_region_with (first
      | (go_at_call 364; refine (HSum.out _).mono ?_; rintro e w5 ⟨rfl, nq, rfl⟩)
      | (go_at_call 362; refine (p_add 0 w w.heap.size true _ 2 _ (by omega) (Nat.le_refl _) (by first | exact h1.drewN _ | exact h1)).mono ?_; rintro e w6 ⟨rfl, hp, hkp⟩))
    all_goals
      go_wp2_with fail
      go_meet
      case rel => rw [Bool.true_and] at hp; first | exact h2.next _ hp hkp | exact h2.next 0 hp hkp
  case rest =>
    clear h0 h1 h2 hb1 HSum HV HR2
    have hq1 := hcut
    obtain ⟨hp1, ht1⟩ := hcut
    generalize hok1 : (!((s[4].toNat : Int) != (q : Int))) = ok1 at *
    have HOK1 := Lib.hid hok1
    clear hok1
    go_upto_region 8 with (fail)
    go_cut [] (fun wx => QRel 2 w w1.heap.size #[.int .i64 a0, .int .i64 a6, .int .i64 ln, .int .i64 n12] (ok1 && (decide (v2 = 2) || decide (v2 = 3))) wx)
    case first =>
      have hz : ∀ x y : Bool, x = y → (ok1 && x) = (ok1 && y) := fun x y e => by rw [e]
      by_cases h2 : v2 = 2
      · subst h2
        go_wp2_with fail
        refine (p_add 1 w w.heap.size ok1 _ 3 _ (by omega) (Nat.le_refl _) hp1).mono ?_
        rintro e w6 ⟨rfl, hp, hkp⟩
        go_wp2_with fail
        go_meet
        case rel => exact hq1.next 0 hp hkp
      · have hb : ((v2 : Int) != 2) = true := by rw [bne_iff_ne]; omega
        have hd := Lib.hid (show decide (v2 = 2) = false by simp [h2])
        clear h2
        by_cases h3 : v2 = 3
        · subst h3
          go_wp2_with fail
          refine (p_add 1 w w.heap.size ok1 _ 3 _ (by omega) (Nat.le_refl _) hp1).mono ?_
          rintro e w6 ⟨rfl, hp, hkp⟩
          go_wp2_with fail
          go_meet
          case rel => exact hq1.next 0 hp hkp
        · have hb3 : ((v2 : Int) != 3) = true := by rw [bne_iff_ne]; omega
          have hd3 := Lib.hid (show decide (v2 = 3) = false by simp [h3])
          clear h3
          go_wp2_with fail
          refine (p_add 1 w w.heap.size ok1 _ 3 _ (by omega) (Nat.le_refl _) hp1).mono ?_
          rintro e w6 ⟨rfl, hp, hkp⟩
          go_wp2_with fail
          go_meet
          case rel => rw [hd.out, hd3.out]; exact hq1.next 0 hp hkp
    case rest =>
      clear hp1 ht1 hq1
      have hq2 := hcut
      obtain ⟨hp2, ht2⟩ := hcut
      generalize hok2 : (ok1 && (decide (v2 = 2) || decide (v2 = 3))) = ok2 at *
      have HOK2 := Lib.hid hok2
      clear hok2
      have c2 : wc.cell? ⟨w1.heap.size, 2, none⟩ = some (.int .i64 ln) := by simp [World.cell?, ht2]
      have hln' : ln < 65536 := by omega
      clear hln
      go_upto_region 9 with (fail)
      go_cut [41] (fun s41 wx => s41 = .bool (decide (16 + ln ≤ s.size)) ∧ QRel 3 w w1.heap.size #[.int .i64 a0, .int .i64 a6, .int .i64 ln, .int .i64 n12] (ok2 && decide (16 + ln ≤ s.size)) wx)
      case first =>
        by_cases hle : 16 + ln ≤ s.size
        · have hd := Lib.hid (show decide (16 + ln ≤ s.size) = true by simp [hle])
          have hdd : decide ((s.size : Int) - 16 < (ln : Int)) = false := by simp; omega
          clear hle
          go_wp2_with fail
          refine (p_add 2 w w.heap.size ok2 _ 4 _ (by omega) (Nat.le_refl _) hp2).mono ?_
          rintro e w6 ⟨rfl, hp, hkp⟩
          go_wp2_with fail
          go_meet
          case rel => rw [hd.out]; exact ⟨rfl, hq2.next 0 hp hkp⟩
        · have hd := Lib.hid (show decide (16 + ln ≤ s.size) = false by simp [hle])
          have hi : (s.size : Int) - 16 < (ln : Int) := by omega
          clear hle
          go_wp2_with fail
          refine (p_add 2 w w.heap.size ok2 _ 4 _ (by omega) (Nat.le_refl _) hp2).mono ?_
          rintro e w6 ⟨rfl, hp, hkp⟩
          go_wp2_with fail
          go_meet
          case rel => rw [hd.out]; exact ⟨rfl, hq2.next 0 hp hkp⟩
      case rest =>
        clear hp2 ht2 hq2 c2
        obtain ⟨rfl, hq3⟩ := hcut
        have h3 := hq3
        obtain ⟨hp3, ht3⟩ := h3
        have HT2 := Lib.hid (rfl : (ok2 && (decide (16 + ln ≤ s.size) && decide (n8 = crcOf ((s.data.toList.drop 16).take ln)))) = (ok2 && (decide (16 + ln ≤ s.size) && decide (n8 = crcOf ((s.data.toList.drop 16).take ln)))))
        generalize hcr : crcOf ((s.data.toList.drop 16).take ln) = cr at *
        have HCr := Lib.hid hcr
        clear hcr HT2
        have c2 : wc.cell? ⟨w1.heap.size, 2, none⟩ = some (.int .i64 ln) := by simp [World.cell?, ht3]
        go_upto_if 41 with (fail)
        go_cut [] (fun wx => QRel 4 w w1.heap.size #[.int .i64 a0, .int .i64 a6, .int .i64 ln, .int .i64 n12] (ok2 && (decide (16 + ln ≤ s.size) && decide (n8 = cr))) wx)
        case first =>
          by_cases hle : 16 + ln ≤ s.size
          · have hd := Lib.hid (show decide (16 + ln ≤ s.size) = true by simp [hle])
            have hD := Lib.hid (show (!((n8 : Int) != (cr : Int))) = decide (n8 = cr) by rw [Bool.eq_iff_iff]; simp; omega)
            have hcd : (s.extract 16 (16 + ln)).data.toList = (s.data.toList.drop 16).take ln := by rw [cut_data]; congr 1; omega
            have hcz : (s.extract 16 (16 + ln)).size = ln := by rw [← len_data, hcd]; simp; omega
            have HCRC := Lib.hid (fun W => p_crc16 (s.extract 16 (16 + ln)) W (by rw [hcz]; omega))
            rw [hcd, HCr.out] at HCRC
            clear hcz hcd
            have hi16 : (16 : Int) + (ln : Int) ≤ (s.size : Int) := by omega
            have hi17 : (16 : Int) ≤ 16 + (ln : Int) := by omega
            have hi18 : (0 : Int) ≤ 16 + (ln : Int) := by omega
            have hi20 : ((16 : Int) + (ln : Int)).toNat = 16 + ln := by omega
            have hw16 : IntKind.i64.wrap (16 + (ln : Int)) = 16 + (ln : Int) := by rw [IntKind.wrap_i64]; omega
            have hcl : cr < 65536 := by rw [← HCr.out]; exact crcOf_lt _
            have hwc : IntKind.i64.wrap (cr : Int) = cr := by rw [IntKind.wrap_i64]; omega
            rw [hd.out, Bool.and_true] at hp3 hq3
            go_wp2_with fail
            go_region_with (first
              | (go_at_call 363; refine (HR8.out _).mono ?_; rintro e w5 ⟨rfl, rfl⟩)
              | (go_at_call 365; refine (HCRC.out _).mono ?_; rintro e w5 ⟨rfl, hb5⟩; have hp5 : PRel 3 w w.heap.size ok2 w5 := PRel.below (hp3.drewN 1) hb5; have ht5 := (hb5.block _ (lt_of_block ht3)).trans ht3)
              | (go_at_call 362; refine (p_add 3 w w.heap.size ok2 _ 5 _ (by omega) (Nat.le_refl _) hp5).mono ?_; rintro e w6 ⟨rfl, hp, hkp⟩))
            all_goals
              go_wp2_with fail
              go_meet
              case rel => rw [hD.out] at hp; exact ⟨by rw [decide_eq_true hle, Bool.true_and]; exact hp, hkp _ _ _ (by decide) (by decide) ht5⟩
          · have hd := decide_eq_false hle
            rw [hd] at hq3
            have hd' := Lib.hid hd
            clear hd
            go_wp2_with fail
            go_meet
            case rel => rw [hd'.out, Bool.false_and]; exact ⟨hq3.1.weaken, hq3.2⟩
        case rest =>
          clear hp3 ht3 hq3 c2
          have hq4 := hcut
          obtain ⟨hp4, ht4⟩ := hcut
          generalize hok4 : (ok2 && (decide (16 + ln ≤ s.size) && decide (n8 = cr))) = ok4 at *
          have HOK4 := Lib.hid hok4
          clear hok4
          have c3 : wc.cell? ⟨w1.heap.size, 3, none⟩ = some (.int .i64 n12) := by simp [World.cell?, ht4]
          have hD := Lib.hid (show (!((n12 : Int) != loc)) = decide ((n12 : Int) = loc) by rw [Bool.eq_iff_iff]; simp)
          go_wp2_with fail
          refine (p_add 4 w w.heap.size ok4 _ 6 _ (by omega) (Nat.le_refl _) hp4).mono ?_
          rintro e w6 ⟨rfl, hp, hkp⟩
          rw [hD.out] at hp
          obtain ⟨v, n, xs, hg, hown, hn, hok, hb⟩ := hp
          have hc := cell_of_one hg
          go_wp2_with fail
          go_ret
          refine ⟨_, rfl, n, xs, hown, by omega, ?_, hb⟩
          have e1 : (!((s[4].toNat : Int) != (q : Int))) = decide (nb s.data.toList 4 = q) := by rw [← HG.out, Bool.eq_iff_iff]; simp; omega
          have e2 : decide (16 + ln ≤ s.size) = decide (ln ≤ s.size - 16) := by rw [Bool.eq_iff_iff]; simp; omega
          rw [hok, ← HT.out, ← HOK4.out, ← HOK2.out, ← HOK1.out, e1, e2]
end Go.Proofs.YtmgbbnnjbgemdaaGreatDoor

/- Law 45, directories: the program's test of a tag; small functions of both sides. -/
namespace Go.Proofs.YtmgbbnnjbgemdaaGreatDoor
open Go.RowKit
set_option maxHeartbeats 400000 in
set_option maxRecDepth 1000000 in
theorem p_faults_short (s : ByteArray) (loc : Int) (w : World) (h : ¬ 16 ≤ s.size) :
    Calls Tryz.prog 206 #[.string s, .int .i64 loc] w fun e w' => ∃ v, e = .returned v ∧ FRel 8 w false v w' := by
  have hlt : (s.size : Int) < 16 := by omega
  clear h
  go_enter Tryz.func206, Tryz.ntmps206
  go_wp2
  go_ret
  exact ⟨_, rfl, 1, [.int .i64 1], World.ownsRow_lit _ _ 1 (Nat.le_refl _) (by decide) rfl, by omega, rfl, (Below.refl _ _).alloc (Nat.le_refl _) _⟩
theorem p_faults_all (s : ByteArray) (loc : Int) (w : World) (hs : s.size ≤ 65536) :
    Calls Tryz.prog 206 #[.string s, .int .i64 loc] w fun e w' => ∃ v, e = .returned v ∧ FRel 8 w (decide (16 ≤ s.data.toList.length) && tagFine s.data.toList loc) v w' := by
  rw [len_data]
  by_cases h : 16 ≤ s.size
  · rw [decide_eq_true h, Bool.true_and]; exact p_faults s loc w h hs
  · rw [decide_eq_false h, Bool.false_and]; exact p_faults_short s loc w h
theorem field_tag (W : World) (a b c d : Value) : Sem.run Tryz.prog (Instr.field 313 (.agg #[a, b, c, d]) 0) W = .ok a W := by kernel_rfl
set_option maxHeartbeats 400000 in
set_option maxRecDepth 1000000 in
theorem p_is (s : ByteArray) (ident : Nat) (loc : Int) (w : World) (hs : s.size ≤ 65536) :
    Calls Tryz.prog 102 #[.string s, .int .i64 ident, .int .i64 loc] w fun e w' => e = .returned (.bool (tagOK s.data.toList ident loc)) ∧ Below w.heap.size w w' := by
  have HF := Lib.hid (p_faults_all s loc w hs)
  have hsz := len_data s
  unfold tagOK
  by_cases h16 : 16 ≤ s.size
  · have HN := Lib.hid (fun W : World => p_values s W h16 hs)
    have hl := num_lt s.data.toList 0 2
    unfold tagV at HN
    generalize num s.data.toList 0 2 = n0 at *
    generalize (decide (16 ≤ s.data.toList.length) && tagFine s.data.toList loc) = ok at *
    clear hsz
    have hfield := fun W : World => field_tag W (.int .i64 n0) (.int .i64 (num s.data.toList 6 2)) (.int .i64 (num s.data.toList 10 2)) (.int .i64 (num s.data.toList 12 4))
    go_enter Tryz.func102, Tryz.ntmps102
    go_wp2_with fail
    refine HF.out.mono ?_
    rintro e w1 ⟨v, rfl, hv⟩
    have hb := hv.below
    obtain ⟨a, n, c, rfl, hn, hn4⟩ := hv.form
    clear hv HF
    cases ok
    · have hn0 : n ≠ 0 := by simpa using hn
      have hB : ((n : Int) == 0) = false := by rw [beq_eq_false_iff_ne]; omega
      clear hn hn0
      go_wp2_with fail
      go_ret
      exact ⟨rfl, hb⟩
    · have hn0 : n = 0 := by simpa using hn
      subst hn0
      go_wp2_with fail
      refine (HN.out _).mono ?_
      rintro e w2 ⟨rfl, hb2⟩
      go_wp2
      go_ret
      refine ⟨ret_bool (a := ((n0 : Int) == (ident : Int))) ?_, hb.trans (hb2.mono hb.size)⟩
      rw [Bool.eq_iff_iff]
      simp
      try omega
  · have hd : decide (16 ≤ s.data.toList.length) = false := by rw [hsz]; exact decide_eq_false h16
    rw [hd, Bool.false_and] at HF
    rw [hd, Bool.false_and, Bool.false_and]
    clear hd hsz
    go_enter Tryz.func102, Tryz.ntmps102
    go_wp2_with fail
    refine HF.out.mono ?_
    rintro e w1 ⟨v, rfl, hv⟩
    have hb := hv.below
    obtain ⟨a, n, c, rfl, hn, hn4⟩ := hv.form
    clear hv HF
    have hn0 : n ≠ 0 := by simpa using hn
    have hB : ((n : Int) == 0) = false := by rw [beq_eq_false_iff_ne]; omega
    clear hn hn0
    go_wp2_with fail
    go_ret
    exact ⟨rfl, hb⟩
end Go.Proofs.YtmgbbnnjbgemdaaGreatDoor
