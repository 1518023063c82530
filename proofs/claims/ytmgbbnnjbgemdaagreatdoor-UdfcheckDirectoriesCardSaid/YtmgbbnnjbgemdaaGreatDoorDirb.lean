/- Law 45, UdfcheckDirectories: walks of the small functions and of the reference: characters and strings. -/
import Derived.Test.YtmgbbnnjbgemdaaGreatDoorDira
import Derived.Laws.IdiomStrings
import Derived.Deep.RegionWith
import Derived.Deep.QuietTactic
import Derived.BigQuiet
/- Law 45, directories: small functions of both sides. -/
namespace Go.Proofs.YtmgbbnnjbgemdaaGreatDoor
open Go.RowKit
theorem ret_bool' {a b : Bool} (h : a = b) : Ending.returned (.bool a) = .returned (.bool b) := by rw [h]
set_option maxRecDepth 1000000
set_option maxHeartbeats 1600000
theorem p_word (n : Nat) (w : World) (h : n < 4294967296) : Calls Tryz.prog 213 #[.int .i64 n] w fun e w' => e = .returned (.bool true) ∧ w' = w := by
  have h1 : (n : Int) < 4294967296 := by omega
  have h2 : (0 : Int) ≤ n := by omega
  clear h
  go_enter Tryz.func213, Tryz.ntmps213
  go_wp2
  go_ret
  exact ⟨rfl, rfl⟩
theorem r_word (n : Nat) (w : World) (h : n < 4294967296) : Calls Tryz.prog 115 #[.int .i64 n] w fun e w' => e = .returned (.bool true) ∧ w' = w := by
  have h1 : (n : Int) < 4294967296 := by omega
  have h2 : (0 : Int) ≤ n := by omega
  clear h
  go_enter Tryz.func115, Tryz.ntmps115
  go_wp2
  go_ret
  exact ⟨rfl, rfl⟩
theorem p_rounded (n : Nat) (w : World) (h : n < 4294967296) : Calls Tryz.prog 105 #[.int .i64 n] w fun e w' => e = .returned (.int .i64 (rounded n : Nat)) ∧ w' = w := by
  go_enter Tryz.func105, Tryz.ntmps105
  go_wp2
  go_ret
  exact ⟨ret_int (by unfold rounded; omega), rfl⟩
theorem r_round (n : Nat) (w : World) (h : n < 4294967296) : Calls Tryz.prog 50 #[.int .i64 n] w fun e w' => e = .returned (.int .i64 (rounded n : Nat)) ∧ w' = w := by
  go_enter Tryz.func50, Tryz.ntmps50
  go_wp2
  go_ret
  exact ⟨ret_int (by unfold rounded; omega), rfl⟩
theorem isChar_cases (n : Nat) : (n < 32 ∧ isChar n = false) ∨ (65533 < n ∧ isChar n = false) ∨ (32 ≤ n ∧ n < 55296 ∧ isChar n = true) ∨ (55296 ≤ n ∧ n ≤ 57343 ∧ isChar n = false) ∨ (57343 < n ∧ n ≤ 65533 ∧ isChar n = true) := by
  unfold isChar
  by_cases h1 : 32 ≤ n <;> by_cases h2 : n ≤ 65533 <;> by_cases h3 : n < 55296 <;> by_cases h4 : 57343 < n <;> simp [h1, h2, h3, h4] <;> omega
theorem isChar_lt {n : Nat} (h : isChar n = true) : n < 65536 := by rcases isChar_cases n with h1 | h1 | h1 | h1 | h1 <;> simp_all <;> omega
theorem isChar_ge {n : Nat} (h : isChar n = true) : 32 ≤ n := by rcases isChar_cases n with h1 | h1 | h1 | h1 | h1 <;> simp_all <;> omega
theorem r_char17 (n : Nat) (w : World) : Calls Tryz.prog 220 #[.int .i64 n] w fun e w' => e = .returned (.bool (isChar n)) ∧ w' = w := by
  rcases isChar_cases n with ⟨h1, h⟩ | ⟨h1, h⟩ | ⟨h1, h2, h⟩ | ⟨h1, h2, h⟩ | ⟨h1, h2, h⟩ <;> rw [h] <;> clear h
  case inr.inr.inr.inl =>
    have d1 : decide ((n : Int) < 55296) = false := by simp; omega
    have d2 : decide ((57343 : Int) < n) = false := by simp; omega
    go_enter Tryz.func220, Tryz.ntmps220
    go_wp2
    go_ret
    exact ⟨rfl, rfl⟩
  case inr.inr.inr.inr =>
    have d1 : decide ((n : Int) < 55296) = false := by simp; omega
    have d2 : decide ((57343 : Int) < n) = true := by simp; omega
    go_enter Tryz.func220, Tryz.ntmps220
    go_wp2
    go_ret
    exact ⟨rfl, rfl⟩
  all_goals
    go_enter Tryz.func220, Tryz.ntmps220
    go_wp2
    go_ret
    exact ⟨rfl, rfl⟩
theorem r_char32 (n : Nat) (w : World) : Calls Tryz.prog 113 #[.int .i64 n] w fun e w' => e = .returned (.bool (isChar n)) ∧ w' = w := by
  rcases isChar_cases n with ⟨h1, h⟩ | ⟨h1, h⟩ | ⟨h1, h2, h⟩ | ⟨h1, h2, h⟩ | ⟨h1, h2, h⟩ <;> rw [h] <;> clear h
  case inr.inr.inr.inl =>
    have d1 : decide ((n : Int) < 55296) = false := by simp; omega
    have d2 : decide ((57343 : Int) < n) = false := by simp; omega
    go_enter Tryz.func113, Tryz.ntmps113
    go_wp2
    go_ret
    exact ⟨rfl, rfl⟩
  case inr.inr.inr.inr =>
    have d1 : decide ((n : Int) < 55296) = false := by simp; omega
    have d2 : decide ((57343 : Int) < n) = true := by simp; omega
    go_enter Tryz.func113, Tryz.ntmps113
    go_wp2
    go_ret
    exact ⟨rfl, rfl⟩
  all_goals
    go_enter Tryz.func113, Tryz.ntmps113
    go_wp2
    go_ret
    exact ⟨rfl, rfl⟩
theorem p_char (n : Nat) (w : World) : Calls Tryz.prog 111 #[.int .i64 n] w fun e w' => e = .returned (.bool (isChar n)) ∧ w' = w := by
  rcases isChar_cases n with ⟨h1, h⟩ | ⟨h1, h⟩ | ⟨h1, h2, h⟩ | ⟨h1, h2, h⟩ | ⟨h1, h2, h⟩ <;> rw [h] <;> clear h
  case inr.inr.inr.inl =>
    have d1 : decide ((n : Int) < 55296) = false := by simp; omega
    have d2 : decide ((57343 : Int) < n) = false := by simp; omega
    go_enter Tryz.func111, Tryz.ntmps111
    go_wp2
    go_ret
    exact ⟨rfl, rfl⟩
  case inr.inr.inr.inr =>
    have d1 : decide ((n : Int) < 55296) = false := by simp; omega
    have d2 : decide ((57343 : Int) < n) = true := by simp; omega
    go_enter Tryz.func111, Tryz.ntmps111
    go_wp2
    go_ret
    exact ⟨rfl, rfl⟩
  all_goals
    go_enter Tryz.func111, Tryz.ntmps111
    go_wp2
    go_ret
    exact ⟨rfl, rfl⟩
theorem p_uchar (n : Nat) (w : World) : Calls Tryz.prog 210 #[.int .i32 n] w fun e w' => e = .returned (.bool (isChar n)) ∧ w' = w := by
  rcases isChar_cases n with ⟨h1, h⟩ | ⟨h1, h⟩ | ⟨h1, h2, h⟩ | ⟨h1, h2, h⟩ | ⟨h1, h2, h⟩ <;> rw [h] <;> clear h
  case inr.inr.inr.inl =>
    have d1 : decide ((n : Int) < 55296) = false := by simp; omega
    have d2 : decide ((57343 : Int) < n) = false := by simp; omega
    go_enter Tryz.func210, Tryz.ntmps210
    go_wp2
    go_ret
    exact ⟨rfl, rfl⟩
  case inr.inr.inr.inr =>
    have d1 : decide ((n : Int) < 55296) = false := by simp; omega
    have d2 : decide ((57343 : Int) < n) = true := by simp; omega
    go_enter Tryz.func210, Tryz.ntmps210
    go_wp2
    go_ret
    exact ⟨rfl, rfl⟩
  all_goals
    go_enter Tryz.func210, Tryz.ntmps210
    go_wp2
    go_ret
    exact ⟨rfl, rfl⟩
end Go.Proofs.YtmgbbnnjbgemdaaGreatDoor

/- Law 45, directories: the reference's UTF-8 of a character. -/
namespace Go.Proofs.YtmgbbnnjbgemdaaGreatDoor
open Go.RowKit
set_option maxRecDepth 1000000
set_option maxHeartbeats 800000
/-- The string of a new block of bytes. -/
theorem conv_new (w : World) (l : List UInt8) (cs : Array Value) (n : Nat) (hn : n = l.length) (hcs : cs = (l.map fun b => Value.int .u8 b.toNat).toArray) :
    Sem.run Tryz.prog (convert 149 9 (.slice (some ⟨w.heap.size, 0, none⟩) n n)) (w.alloc (.cells cs 5)) = .ok (.string ⟨l.toArray⟩) (w.alloc (.cells cs 5)) := by
  subst hn hcs
  refine run_convert_bytes_back _ _ _ 5 _ _ l Tryz.underlying149 Tryz.underlying5 Tryz.underlying9 ?_
  intro j hj
  have e : (({ block := w.heap.size, off := 0 } : Addr).add j) = ⟨w.heap.size, j, none⟩ := by
    unfold Addr.add
    by_cases hz : j = 0
    · subst hz; rfl
    · rw [if_neg hz]; simp
  rw [e, World.cell?_alloc_at _ _ _ _ rfl]
  simp [hj]
theorem conv1 (w : World) (i : Int) (h0 : 0 ≤ i) (h1 : i < 256) :
    Sem.run Tryz.prog (convert 149 9 (.slice (some ⟨w.heap.size, 0, none⟩) 1 1)) (w.alloc (.cells #[.int .u8 i] 5)) = .ok (.string ⟨#[UInt8.ofNat i.toNat]⟩) (w.alloc (.cells #[.int .u8 i] 5)) :=
  conv_new w [UInt8.ofNat i.toNat] _ 1 rfl (by simp; omega)
theorem conv2 (w : World) (i j : Int) (h0 : 0 ≤ i ∧ i < 256) (h1 : 0 ≤ j ∧ j < 256) :
    Sem.run Tryz.prog (convert 149 9 (.slice (some ⟨w.heap.size, 0, none⟩) 2 2)) (w.alloc (.cells #[.int .u8 i, .int .u8 j] 5)) = .ok (.string ⟨#[UInt8.ofNat i.toNat, UInt8.ofNat j.toNat]⟩) (w.alloc (.cells #[.int .u8 i, .int .u8 j] 5)) :=
  conv_new w [UInt8.ofNat i.toNat, UInt8.ofNat j.toNat] _ 2 rfl (by simp; omega)
theorem conv3 (w : World) (i j k : Int) (h0 : 0 ≤ i ∧ i < 256) (h1 : 0 ≤ j ∧ j < 256) (h2 : 0 ≤ k ∧ k < 256) :
    Sem.run Tryz.prog (convert 149 9 (.slice (some ⟨w.heap.size, 0, none⟩) 3 3)) (w.alloc (.cells #[.int .u8 i, .int .u8 j, .int .u8 k] 5)) = .ok (.string ⟨#[UInt8.ofNat i.toNat, UInt8.ofNat j.toNat, UInt8.ofNat k.toNat]⟩) (w.alloc (.cells #[.int .u8 i, .int .u8 j, .int .u8 k] 5)) :=
  conv_new w [UInt8.ofNat i.toNat, UInt8.ofNat j.toNat, UInt8.ofNat k.toNat] _ 3 rfl (by simp; omega)
theorem ret_str {a b : ByteArray} (h : a = b) : Ending.returned (.string a) = .returned (.string b) := by rw [h]
theorem r_enc (n : Nat) (w : World) (h : n < 65536) : Calls Tryz.prog 221 #[.int .i64 n] w fun e w' => e = .returned (.string ⟨(enc n).toArray⟩) ∧ Below w.heap.size w w' := by
  have hb : ∀ o, Below w.heap.size w (w.alloc o) := fun o => (Below.refl _ _).alloc (Nat.le_refl _) o
  unfold enc
  by_cases h1 : n < 128
  · rw [if_pos h1]
    have hc := conv1 w n (by omega) (by omega)
    go_enter Tryz.func221, Tryz.ntmps221
    go_wp2
    go_ret
    exact ⟨rfl, hb _⟩
  · rw [if_neg h1]
    have h1' : (128 : Int) ≤ n := by omega
    clear h1
    by_cases h2 : n < 2048
    · rw [if_pos h2]
      have hc := conv2 w (192 + (n : Int) / 64) (128 + (n : Int) % 64) (by omega) (by omega)
      go_enter Tryz.func221, Tryz.ntmps221
      go_wp2
      go_ret
      exact ⟨ret_str (by congr 3 <;> omega), hb _⟩
    · rw [if_neg h2]
      have hc := conv3 w (224 + (n : Int) / 4096) (128 + (n : Int) / 64 % 64) (128 + (n : Int) % 64) (by omega) (by omega) (by omega)
      have h2' : (2048 : Int) ≤ n := by omega
      clear h2
      go_enter Tryz.func221, Tryz.ntmps221
      go_wp2
      go_ret
      exact ⟨ret_str (by congr 3 <;> omega), hb _⟩
end Go.Proofs.YtmgbbnnjbgemdaaGreatDoor

/- Law 45, directories: the reference's first character of a string. -/
namespace Go.Proofs.YtmgbbnnjbgemdaaGreatDoor
open Go.RowKit
set_option maxRecDepth 1000000
set_option maxHeartbeats 1600000
theorem enc1 {n : Nat} (h : n < 128) : enc n = [UInt8.ofNat n] := by unfold enc; rw [if_pos h]
theorem enc2 {n : Nat} (h0 : 128 ≤ n) (h : n < 2048) : enc n = [UInt8.ofNat (192 + n / 64), UInt8.ofNat (128 + n % 64)] := by unfold enc; rw [if_neg (by omega), if_pos h]
theorem enc3 {n : Nat} (h : 2048 ≤ n) : enc n = [UInt8.ofNat (224 + n / 4096), UInt8.ofNat (128 + n / 64 % 64), UInt8.ofNat (128 + n % 64)] := by unfold enc; rw [if_neg (by omega), if_neg (by omega)]
theorem enc_length (n : Nat) : (enc n).length = if n < 128 then 1 else if n < 2048 then 2 else 3 := by unfold enc; split <;> (try split) <;> rfl
theorem get_data (s : ByteArray) (k : Nat) (h : k < s.size) (l : List UInt8) (hl : s.data.toList = l) : ∃ h' : k < l.length, s[k] = l[k] := by
  subst hl
  exact ⟨by simpa using h, rfl⟩
theorem str_eq {a b : ByteArray} (h : a.data.toList = b.data.toList) : a = b := by
  cases a; cases b; congr; exact Array.toList_inj.1 h
theorem ret_pair {a b : Int} {n m : Int} (h : a = b) (h2 : n = m) : Ending.returned (.tuple #[.int .i64 a, .int .i64 n]) = .returned (.tuple #[.int .i64 b, .int .i64 m]) := by rw [h, h2]
theorem own_below' {w w' : World} {base : Nat} {e : TypeId} {size : Nat} {v : Value} {n : Nat} {xs : List Value} (h : w.ownsRow base e size v n xs) (hb : Below w.heap.size w w') : w'.ownsRow base e size v n xs := by
  obtain ⟨h1, h2⟩ := h
  refine ⟨h1, ?_⟩
  rcases h2 with h2 | ⟨g, cap, cur, e1, e2, e3, e4⟩
  · exact .inl h2
  · refine .inr ⟨g, cap, cur, e1, e2, ?_, e4⟩
    rw [hb.block g (Array.getElem?_eq_some_iff.1 e3).1, e3]
theorem below_drew {B : Nat} {a w : World} (h : Below B a w) : Below B a w.drew := ⟨h.os, h.tape, h.output, h.size, h.block⟩
theorem below_next {w wr w5 : World} (h : Below w.heap.size w wr) (h5 : Below wr.drew.heap.size wr.drew w5) : Below w.heap.size w w5 := (below_drew h).trans (h5.mono h.size)
theorem r_first1 (s : ByteArray) (c : Nat) (rest : List UInt8) (w : World) (hs : s.data.toList = enc c ++ rest) (hc : isChar c = true) (h1 : c < 128) (hz : s.size ≤ 65536) :
    Calls Tryz.prog 117 #[.string s] w fun e w' => e = .returned (.tuple #[.int .i64 c, .int .i64 1]) ∧ Below w.heap.size w w' := by
  have HC := Lib.hid (fun W : World => r_char17 c W)
  have HE := Lib.hid (fun W : World => r_enc c W (by omega))
  rw [hc] at HC
  rw [enc1 h1] at HE hs
  have hl : 0 < s.size := by rw [← len_data, hs]; simp
  have hb0 : s[0].toNat = c := by
    obtain ⟨_, e⟩ := get_data s 0 hl _ hs
    rw [e]; simp; omega
  have hs1 : (1 : Int) ≤ s.size := by omega
  have hi0 : (0 : Int) < s.size := by omega
  have he : s.extract 0 1 = ⟨#[UInt8.ofNat c]⟩ := str_eq (by rw [cut_data, hs]; simp)
  have hcl : c < 256 := by omega
  go_enter Tryz.func117, Tryz.ntmps117
  go_wp2
  go_loopw [4] (fun i wr => i = .int .i64 1 ∧ Below w.heap.size w wr) (fun _ _ => 0)
  case atStart => exact ⟨rfl, Below.refl _ _⟩
  case round =>
    obtain ⟨rfl, hbw⟩ := hrel
    go_wp2
    go_region_with (first
      | (go_at_call 220; refine (HC.out _).mono ?_; rintro e w5 ⟨rfl, rfl⟩)
      | (go_at_call 221; refine (HE.out _).mono ?_; rintro e w5 ⟨rfl, hb5⟩))
    all_goals
      go_wp2
      go_ret2
      exact ⟨rfl, below_next hbw hb5⟩
theorem char_range {n : Nat} (h0 : 32 ≤ n) (h1 : n < 55296) : isChar n = true := by unfold isChar; simp; omega
theorem size_extract (s : ByteArray) (k : Nat) (h : k ≤ s.size) : (s.extract 0 k).size = k := by rw [← len_data, cut_data]; simp; omega
theorem size_enc (n : Nat) : (⟨(enc n).toArray⟩ : ByteArray).size = (enc n).length := by rw [← len_data]
theorem str_ne {a b : ByteArray} (h : a.size ≠ b.size) : (a.toList == b.toList) = false := by
  rw [beq_eq_false_iff_ne, ByteArray.toList_eq, ByteArray.toList_eq]
  intro e
  exact h (by rw [← len_data, ← len_data, e])
theorem r_first2 (s : ByteArray) (c : Nat) (rest : List UInt8) (w : World) (hs : s.data.toList = enc c ++ rest) (hc : isChar c = true) (h0 : 128 ≤ c) (h1 : c < 2048) (hz : s.size ≤ 65536) :
    Calls Tryz.prog 117 #[.string s] w fun e w' => e = .returned (.tuple #[.int .i64 c, .int .i64 2]) ∧ Below w.heap.size w w' := by
  have HC := Lib.hid (fun W : World => r_char17 c W)
  have HE := Lib.hid (fun W : World => r_enc c W (by omega))
  rw [hc] at HC
  have hsz := len_data s
  have he : s.extract 0 2 = ⟨(enc c).toArray⟩ := str_eq (by rw [cut_data, hs, enc2 h0 h1]; simp)
  rw [enc2 h0 h1] at hs
  have hl : 2 ≤ s.size := by rw [← hsz, hs]; simp
  have hb0 : s[0].toNat = 192 + c / 64 := by
    obtain ⟨_, e⟩ := get_data s 0 (by omega) _ hs
    rw [e]; simp; omega
  have hb1 : s[1].toNat = 128 + c % 64 := by
    obtain ⟨_, e⟩ := get_data s 1 (by omega) _ hs
    rw [e]; simp; omega
  have HC1 := Lib.hid (fun W : World => r_char17 (192 + c / 64) W)
  have HE1 := Lib.hid (fun W : World => r_enc (192 + c / 64) W (by omega))
  rw [char_range (by omega) (by omega)] at HC1
  have hx1 : ((⟨(enc (192 + c / 64)).toArray⟩ : ByteArray).toList == (s.extract 0 1).toList) = false := str_ne (by rw [size_enc, size_extract _ _ (by omega), enc2 (by omega) (by omega)]; simp)
  have hs1 : (2 : Int) ≤ s.size := by omega
  have hi0 : (0 : Int) < s.size := by omega
  have hi1 : (1 : Int) < s.size := by omega
  generalize (⟨(enc c).toArray⟩ : ByteArray) = t2 at *
  generalize (⟨(enc (192 + c / 64)).toArray⟩ : ByteArray) = t1 at *
  clear hs
  have e1 : ((192 + c / 64 : Nat) : Int) = 192 + (c : Int) / 64 := by omega
  have e2 : ((128 + c % 64 : Nat) : Int) = 128 + (c : Int) % 64 := by omega
  have e3 : (192 + (c : Int) / 64 - 192) * 64 + (128 + (c : Int) % 64) - 128 = c := by omega
  go_enter Tryz.func117, Tryz.ntmps117
  go_wp2
  go_loopw [4] (fun i wr => (i = .int .i64 1 ∨ i = .int .i64 2) ∧ Below w.heap.size w wr) (fun i _ => 3 - (intOf i).toNat)
  case atStart => exact ⟨.inl rfl, Below.refl _ _⟩
  case round =>
    obtain ⟨rfl | rfl, hbw⟩ := hrel
    · go_wp2
      go_region_with (first
        | (go_at_call 220; refine (HC1.out _).mono ?_; rintro e w5 ⟨rfl, rfl⟩)
        | (go_at_call 221; refine (HE1.out _).mono ?_; rintro e w5 ⟨rfl, hb5⟩))
      all_goals
        go_wp2
        go_roundw
        · exact ⟨.inr rfl, below_next hbw hb5⟩
        · simp [intOf]
    · go_wp2
      go_region
      go_wp2
      go_region_with (first
        | (go_at_call 220; refine (HC.out _).mono ?_; rintro e w5 ⟨rfl, rfl⟩)
        | (go_at_call 221; refine (HE.out _).mono ?_; rintro e w5 ⟨rfl, hb5⟩))
      all_goals
        go_wp2
        go_ret2
        exact ⟨rfl, below_next (below_drew hbw) hb5⟩
theorem r_first3 (s : ByteArray) (c : Nat) (rest : List UInt8) (w : World) (hs : s.data.toList = enc c ++ rest) (hc : isChar c = true) (h0 : 2048 ≤ c) (hz : s.size ≤ 65536) :
    Calls Tryz.prog 117 #[.string s] w fun e w' => e = .returned (.tuple #[.int .i64 c, .int .i64 3]) ∧ Below w.heap.size w w' := by
  have hcl := isChar_lt hc
  have HC := Lib.hid (fun W : World => r_char17 c W)
  have HE := Lib.hid (fun W : World => r_enc c W hcl)
  rw [hc] at HC
  have hsz := len_data s
  have he : s.extract 0 3 = ⟨(enc c).toArray⟩ := str_eq (by rw [cut_data, hs, enc3 h0]; simp)
  rw [enc3 h0] at hs
  have hl : 3 ≤ s.size := by rw [← hsz, hs]; simp
  have hb0 : s[0].toNat = 224 + c / 4096 := by
    obtain ⟨_, e⟩ := get_data s 0 (by omega) _ hs
    rw [e]; simp; omega
  have hb1 : s[1].toNat = 128 + c / 64 % 64 := by
    obtain ⟨_, e⟩ := get_data s 1 (by omega) _ hs
    rw [e]; simp; omega
  have hb2 : s[2].toNat = 128 + c % 64 := by
    obtain ⟨_, e⟩ := get_data s 2 (by omega) _ hs
    rw [e]; simp; omega
  have HC1 := Lib.hid (fun W : World => r_char17 (224 + c / 4096) W)
  have HE1 := Lib.hid (fun W : World => r_enc (224 + c / 4096) W (by omega))
  rw [char_range (by omega) (by omega)] at HC1
  have hx1 : ((⟨(enc (224 + c / 4096)).toArray⟩ : ByteArray).toList == (s.extract 0 1).toList) = false := str_ne (by rw [size_enc, size_extract _ _ (by omega), enc2 (by omega) (by omega)]; simp)
  have HC2 := Lib.hid (fun W : World => r_char17 ((32 + c / 4096) * 64 + c / 64 % 64) W)
  have HE2 := Lib.hid (fun W : World => r_enc ((32 + c / 4096) * 64 + c / 64 % 64) W (by omega))
  rw [char_range (by omega) (by omega)] at HC2
  have hx2 : ((⟨(enc ((32 + c / 4096) * 64 + c / 64 % 64)).toArray⟩ : ByteArray).toList == (s.extract 0 2).toList) = false := str_ne (by rw [size_enc, size_extract _ _ (by omega), enc3 (by omega)]; simp)
  have hs1 : (3 : Int) ≤ s.size := by omega
  have hi0 : (0 : Int) < s.size := by omega
  have hi1 : (1 : Int) < s.size := by omega
  have hi2 : (2 : Int) < s.size := by omega
  have e1 : ((224 + c / 4096 : Nat) : Int) = 224 + (c : Int) / 4096 := by omega
  have e3 : ((224 + (c : Int) / 4096 - 192) * 64 + (128 + (c : Int) / 64 % 64) - 128) = (((32 + c / 4096) * 64 + c / 64 % 64 : Nat) : Int) := by omega
  have e4 : (224 + (c : Int) / 4096 - 224) * 4096 + (128 + (c : Int) / 64 % 64 - 128) * 64 + (128 + (c : Int) % 64) - 128 = c := by omega
  generalize (⟨(enc c).toArray⟩ : ByteArray) = t3 at *
  generalize (⟨(enc (224 + c / 4096)).toArray⟩ : ByteArray) = t1 at *
  generalize (⟨(enc ((32 + c / 4096) * 64 + c / 64 % 64)).toArray⟩ : ByteArray) = t2 at *
  generalize hn2 : (32 + c / 4096) * 64 + c / 64 % 64 = n2 at *
  have Hn2 := Lib.hid hn2
  clear hs hn2
  go_enter Tryz.func117, Tryz.ntmps117
  go_wp2
  go_loopw [4] (fun i wr => (i = .int .i64 1 ∨ i = .int .i64 2 ∨ i = .int .i64 3) ∧ Below w.heap.size w wr) (fun i _ => 4 - (intOf i).toNat)
  case atStart => exact ⟨.inl rfl, Below.refl _ _⟩
  case round =>
    obtain ⟨rfl | rfl | rfl, hbw⟩ := hrel
    · go_wp2
      go_region_with (first
        | (go_at_call 220; refine (HC1.out _).mono ?_; rintro e w5 ⟨rfl, rfl⟩)
        | (go_at_call 221; refine (HE1.out _).mono ?_; rintro e w5 ⟨rfl, hb5⟩))
      all_goals
        go_wp2
        go_roundw
        · exact ⟨.inr (.inl rfl), below_next hbw hb5⟩
        · simp [intOf]
    · go_wp2
      go_region
      go_wp2
      go_region_with (first
        | (go_at_call 220; refine (HC2.out _).mono ?_; rintro e w5 ⟨rfl, rfl⟩)
        | (go_at_call 221; refine (HE2.out _).mono ?_; rintro e w5 ⟨rfl, hb5⟩))
      all_goals
        go_wp2
        go_roundw
        · exact ⟨.inr (.inr rfl), below_next (below_drew hbw) hb5⟩
        · simp [intOf]
    · go_wp2
      go_region
      go_wp2
      go_region_with (first
        | (go_at_call 220; refine (HC.out _).mono ?_; rintro e w5 ⟨rfl, rfl⟩)
        | (go_at_call 221; refine (HE.out _).mono ?_; rintro e w5 ⟨rfl, hb5⟩))
      all_goals
        go_wp2
        go_ret2
        exact ⟨rfl, below_next (below_drew hbw) hb5⟩
theorem r_first (s : ByteArray) (c : Nat) (rest : List UInt8) (w : World) (hs : s.data.toList = enc c ++ rest) (hc : isChar c = true) (hz : s.size ≤ 65536) :
    Calls Tryz.prog 117 #[.string s] w fun e w' => e = .returned (.tuple #[.int .i64 c, .int .i64 (enc c).length]) ∧ Below w.heap.size w w' := by
  rw [enc_length]
  by_cases h1 : c < 128
  · rw [if_pos h1]; exact r_first1 s c rest w hs hc h1 hz
  · rw [if_neg h1]
    by_cases h2 : c < 2048
    · rw [if_pos h2]; exact r_first2 s c rest w hs hc (by omega) h2 hz
    · rw [if_neg h2]; exact r_first3 s c rest w hs hc (by omega) hz
end Go.Proofs.YtmgbbnnjbgemdaaGreatDoor

/- Law 45, directories: the reference's characters of a text. -/
namespace Go.Proofs.YtmgbbnnjbgemdaaGreatDoor
open Go.RowKit
set_option maxRecDepth 1000000
set_option maxHeartbeats 1600000
def strSize (v : Value) : Nat := match v with | .string s => s.size | _ => 0
def intsV (l : List Nat) : List Value := l.map fun (n : Nat) => .int .i64 (n : Int)
theorem encs_cons (c : Nat) (l : List Nat) : encs (c :: l) = enc c ++ encs l := by simp [encs]
theorem enc_pos (n : Nat) : 1 ≤ (enc n).length := by rw [enc_length]; split <;> (try split) <;> omega
theorem enc_le (n : Nat) : (enc n).length ≤ 3 := by rw [enc_length]; split <;> (try split) <;> omega
theorem encs_len (l : List Nat) : l.length ≤ (encs l).length ∧ (encs l).length ≤ 3 * l.length := by
  induction l with
  | nil => simp [encs]
  | cons c l ih => rw [encs_cons, List.length_append, List.length_cons]; have := enc_pos c; have := enc_le c; omega
theorem encs_append (a b : List Nat) : encs (a ++ b) = encs a ++ encs b := by simp [encs]
theorem intsV_snoc (a : List Nat) (c : Nat) : intsV (a ++ [c]) = intsV a ++ [.int .i64 c] := by simp [intsV]
theorem ret_own {v : Value} {a b : Int} (h : a = b) : Ending.returned (.tuple #[v, .int .i64 a]) = .returned (.tuple #[v, .int .i64 b]) := by rw [h]
def CRel (cs : List Nat) (w : World) (t out : Value) (wr : World) : Prop := ∃ (s : ByteArray) (a b : List Nat), t = .string s ∧ cs = a ++ b ∧ s.data.toList = encs b ∧ wr.ownsRow w.heap.size 3 1 out a.length (intsV a) ∧ Below w.heap.size w wr
theorem r_chars (s : ByteArray) (cs : List Nat) (w : World) (hs : s.data.toList = encs cs) (hc : ∀ c ∈ cs, isChar c = true) (hz : s.size ≤ 65536) :
    Calls Tryz.prog 53 #[.string s] w fun e w' => ∃ v, e = .returned (.tuple #[v, .int .i64 0]) ∧ w'.ownsRow w.heap.size 3 1 v cs.length (intsV cs) ∧ Below w.heap.size w w' := by
  obtain ⟨i0, hi, hz0, hz1, hz2⟩ := info_parts info_int
  have hcl : cs.length ≤ 65536 := by have := (encs_len cs).1; rw [← hs, len_data] at this; omega
  have hs0 : (s.size : Int) ≤ 65536 := by omega
  have HS := Lib.hid hs
  clear hs
  go_enter Tryz.func53, Tryz.ntmps53
  go_wp2
  go_loopw [0, 4] (fun t out wr => CRel cs w t out wr) (fun t _ _ => strSize t)
  case atStart => exact ⟨s, [], cs, rfl, rfl, HS.out, World.ownsRow_nil _ _ _ _, Below.refl _ _⟩
  case round =>
    obtain ⟨t, a, b, rfl, hab, ht, hown, hbw⟩ := hrel
    cases b with
    | nil =>
      have ht0 : t.size = 0 := by rw [← len_data, ht]; rfl
      have hal : a = cs := by rw [hab, List.append_nil]
      subst hal
      go_wp2
      go_ret2
      exact ⟨_, rfl, hown, hbw⟩
    | cons c b =>
      have hcc : isChar c = true := hc c (by rw [hab]; simp)
      have htl : t.size = (enc c).length + (encs b).length := by rw [← len_data, ht, encs_cons, List.length_append]
      have hp := enc_pos c
      have hp3 := enc_le c
      have htz : t.size ≤ 65536 := by
        have e : (encs cs).length = (encs a).length + t.size := by rw [hab, encs_append, List.length_append, ← ht, len_data]
        rw [← HS.out, len_data] at e
        omega
      have HF := Lib.hid (fun W : World => r_first t c (encs b) W (by rw [ht, encs_cons]) hcc htz)
      have hal : a.length + 1 ≤ cs.length := by rw [hab]; simp
      have hd : (t.extract (enc c).length t.size).data.toList = encs b := by rw [cut_data, ht, encs_cons, List.drop_left, List.take_of_length_le (by omega)]
      have hL : ((enc c).length : Int) ≤ t.size := by omega
      have hL0 : (enc c).length ≠ 0 := by omega
      have hm : (t.extract (enc c).length t.size).size < t.size := by rw [← len_data, hd]; omega
      have ht1 : 0 < t.size := by omega
      have HTL := Lib.hid htl
      clear htl ht
      generalize (enc c).length = L at *
      go_wp2_with fail
      refine (HF.out _).mono ?_
      rintro e w1 ⟨rfl, hb1⟩
      have hb1' := hbw.trans (hb1.mono hbw.size)
      have hown1 := own_below' hown hb1
      clear HF
      go_wp2_with (first
        | (at_builtin; refine wpList_append_own _ rfl _ _ 22 rfl w.heap.size 3 i0 (.int .i64 0) 1 8 Tryz.underlying22 hi hz0 hz1 hz2 rfl (by decide) _ _ _ rfl (hown1.alloc _) ⟨w1.heap.size, 0, none⟩ 1 1 [.int .i64 c] rfl rfl ?_ ?_ ?_ ?_ ?_ ?_)
        | go_in)
      · intro j u hj
        match j, hj with
        | 0, hj => simp at hj; subst hj; exact new_one _ _ _ _ rfl
      · intro u hu; simp at hu; subst hu; rfl
      · unfold maxLen; omega
      · omega
      · exact (hb1'.alloc hb1'.size _).size
      · intro v' w2 hown' hgrow _
        have hb2 := (hb1'.alloc hb1'.size _).grown hgrow (hb1'.alloc hb1'.size _).size (fun j hj => (hown1.lt j hj).1)
        go_wp2
        go_roundw
        case rel => exact ⟨_, a ++ [c], b, rfl, by rw [hab]; simp, hd, by rw [intsV_snoc, List.length_append]; exact hown', hb2⟩
        case measure => exact hm
end Go.Proofs.YtmgbbnnjbgemdaaGreatDoor

/- Law 45, directories: the reference's compressed Unicode: its size. -/
namespace Go.Proofs.YtmgbbnnjbgemdaaGreatDoor
open Go.RowKit
set_option maxRecDepth 1000000
set_option maxHeartbeats 1600000
def bytesV (l : List UInt8) : List Value := l.map fun (b : UInt8) => .int .u8 (b.toNat : Int)
theorem bytesV_snoc (l : List UInt8) (b : UInt8) : bytesV (l ++ [b]) = bytesV l ++ [.int .u8 (b.toNat : Int)] := by simp [bytesV]
theorem info_byte : (Tryz.prog.info? 5).map (fun i => (i.zero, i.size, i.bytes)) = some (some (.int .u8 0), 1, 1) := by kernel_rfl
/-- The string of a row of bytes. -/
theorem conv_own {w : World} {base : Nat} {v : Value} (l : List UInt8) (n : Nat) (h : w.ownsRow base 5 1 v n (bytesV l)) : Sem.run Tryz.prog (convert 149 9 v) w = .ok (.string ⟨l.toArray⟩) w := by
  have hn : l.length = n := by have := h.1; rw [bytesV, List.length_map, Nat.mul_one] at this; exact this
  subst hn
  rcases h.2 with ⟨rfl, h2⟩ | ⟨g, cap, cur, rfl, _⟩
  · have e : l = [] := List.length_eq_zero_iff.1 h2
    subst e
    rw [show Sem.run Tryz.prog (convert 149 9 (.slice none 0 0)) w = Sem.run Tryz.prog (Conv.bytesToString (.slice none 0 0)) w from run_convert_bytes_string w _ _ 5 none 0 0 Tryz.underlying149 Tryz.underlying5 Tryz.underlying9]
    rfl
  · refine run_convert_bytes_back w _ _ 5 _ _ l Tryz.underlying149 Tryz.underlying5 Tryz.underlying9 ?_
    intro j hj
    exact h.cells rfl j _ (by rw [bytesV, List.getElem?_map, List.getElem?_eq_getElem hj]; rfl)
theorem byte_of (n : Nat) (h : n < 256) : Value.int .u8 (n : Int) = .int .u8 ((UInt8.ofNat n).toNat : Int) := by congr; simp; omega
def BRel (size : Nat) (w : World) (n out i : Value) (wr : World) : Prop := ∃ (m k : Nat) (l : List UInt8), n = .int .i64 m ∧ m < 65536 ∧ i = .int .i64 k ∧ k ≤ size ∧ l.length = k ∧ wr.ownsRow w.heap.size 5 1 out k (bytesV l) ∧ Below w.heap.size w wr
theorem r_bytes (n size : Nat) (w : World) (hn : n < 65536) (hz : size ≤ 4) :
    Calls Tryz.prog 378 #[.int .i64 n, .int .i64 size] w fun e w' => ∃ s : ByteArray, e = .returned (.string s) ∧ s.size = size ∧ Below w.heap.size w w' := by
  obtain ⟨i0, hi, hz0, hz1, hz2⟩ := info_parts info_byte
  go_enter Tryz.func378, Tryz.ntmps378
  go_wp2
  go_loopw [0, 5, 6] (fun m out i wr => BRel size w m out i wr) (fun _ _ i _ => size - (intOf i).toNat)
  case atStart => exact ⟨n, 0, [], rfl, hn, rfl, by omega, rfl, World.ownsRow_lit _ _ 0 (Nat.le_refl _) (by decide) rfl, (Below.refl _ _).alloc (Nat.le_refl _) _⟩
  case round =>
    obtain ⟨m, k, l, rfl, hm, rfl, hk, hl, hown, hbw⟩ := hrel
    by_cases hlt : k < size
    · have hB := byte_of (m % 256) (by omega)
      have e1 : ((m % 256 : Nat) : Int) = (m : Int) % 256 := by omega
      rw [e1] at hB
      have HB := Lib.hid hB
      clear hB e1
      go_wp2_with (first
        | (at_builtin; refine wpList_append_own _ rfl _ _ 149 rfl w.heap.size 5 i0 (.int .u8 0) 1 1 Tryz.underlying149 hi hz0 hz1 hz2 rfl (by decide) _ _ _ rfl (hown.alloc _) ⟨wr.heap.size, 0, none⟩ 1 1 [.int .u8 ((m : Int) % 256)] rfl rfl ?_ ?_ ?_ ?_ ?_ ?_)
        | go_in)
      · intro j u hj
        match j, hj with
        | 0, hj => simp at hj; subst hj; exact new_one _ _ _ _ rfl
      · intro u hu; simp at hu; subst hu; rfl
      · unfold maxLen; omega
      · omega
      · exact (hbw.alloc hbw.size _).size
      · intro v' w2 hown' hgrow _
        have hb2 := (hbw.alloc hbw.size _).grown hgrow (hbw.alloc hbw.size _).size (fun j hj => (hown.lt j hj).1)
        rw [HB.out, ← bytesV_snoc] at hown'
        go_wp2
        go_roundw
        case rel => exact ⟨m / 256, k + 1, _, by first | rfl | go_num, by omega, by go_num, by omega, by simp [hl], hown', hb2⟩
        case measure => simp [intOf]; omega
    · have hk' : k = size := by omega
      subst hk'
      have hconv := conv_own l k hown
      go_wp2
      go_ret
      exact ⟨_, rfl, by rw [← len_data]; simpa using hl, hbw⟩
def VRel (s : ByteArray) (w : World) (out i : Value) (wr : World) : Prop := ∃ (k : Nat) (l : List UInt8), i = .int .i64 ((s.size : Int) - 1 - k) ∧ k ≤ s.size ∧ l.length = k ∧ wr.ownsRow w.heap.size 5 1 out k (bytesV l) ∧ Below w.heap.size w wr
theorem r_reverse (s : ByteArray) (w : World) (hz : s.size ≤ 65536) :
    Calls Tryz.prog 377 #[.string s] w fun e w' => ∃ t : ByteArray, e = .returned (.string t) ∧ t.size = s.size ∧ Below w.heap.size w w' := by
  obtain ⟨i0, hi, hz0, hz1, hz2⟩ := info_parts info_byte
  go_enter Tryz.func377, Tryz.ntmps377
  go_wp2
  go_loopw [3, 4] (fun out i wr => VRel s w out i wr) (fun _ i _ => (intOf i + 1).toNat)
  case atStart => exact ⟨0, [], by simp, by omega, rfl, World.ownsRow_lit _ _ 0 (Nat.le_refl _) (by decide) rfl, (Below.refl _ _).alloc (Nat.le_refl _) _⟩
  case round =>
    obtain ⟨k, l, rfl, hk, hl, hown, hbw⟩ := hrel
    by_cases hlt : k < s.size
    · have hi1 : (0 : Int) ≤ (s.size : Int) - 1 - k := by omega
      have hi2 : (s.size : Int) - 1 - k < s.size := by omega
      have hi3 : ((s.size : Int) - 1 - k).toNat = s.size - 1 - k := by omega
      have hj : s.size - 1 - k < s.size := by omega
      have hb := byte_of s[s.size - 1 - k].toNat (UInt8.toNat_lt _)
      have HB := Lib.hid hb
      clear hb
      go_wp2_with (first
        | (at_builtin; refine wpList_append_own _ rfl _ _ 149 rfl w.heap.size 5 i0 (.int .u8 0) 1 1 Tryz.underlying149 hi hz0 hz1 hz2 rfl (by decide) _ _ _ rfl (hown.alloc _) ⟨wr.heap.size, 0, none⟩ 1 1 [.int .u8 (s[s.size - 1 - k].toNat : Int)] rfl rfl ?_ ?_ ?_ ?_ ?_ ?_)
        | go_in)
      · intro j u hj
        match j, hj with
        | 0, hj => simp at hj; subst hj; exact new_one _ _ _ _ rfl
      · intro u hu; simp at hu; subst hu; rfl
      · unfold maxLen; omega
      · omega
      · exact (hbw.alloc hbw.size _).size
      · intro v' w2 hown' hgrow _
        have hb2 := (hbw.alloc hbw.size _).grown hgrow (hbw.alloc hbw.size _).size (fun j hj => (hown.lt j hj).1)
        rw [HB.out, ← bytesV_snoc] at hown'
        go_wp2
        go_roundw
        case rel => exact ⟨k + 1, _, by congr 1; omega, by omega, by simp [hl], hown', hb2⟩
        case measure => simp [intOf]; omega
    · have hk' : k = s.size := by omega
      have hconv := conv_own l k hown
      subst hk'
      go_wp2
      go_ret
      exact ⟨_, rfl, by rw [← len_data]; simpa using hl, hbw⟩
end Go.Proofs.YtmgbbnnjbgemdaaGreatDoor

/- Law 45, directories: the reference's compressed Unicode: its size (2). -/
namespace Go.Proofs.YtmgbbnnjbgemdaaGreatDoor
open Go.RowKit
set_option maxRecDepth 1000000
set_option maxHeartbeats 1600000
def wide (cs : List Nat) : Nat := if cs.any (fun c => decide (255 < c)) then 2 else 1
def sqz (cs : List Nat) : Nat := if cs.isEmpty then 0 else 1 + cs.length * wide cs
theorem wide_snoc (a : List Nat) (c : Nat) : wide (a ++ [c]) = if 255 < c then 2 else wide a := by
  unfold wide
  by_cases h : 255 < c <;> simp [h]
theorem wide_le (cs : List Nat) : 1 ≤ wide cs ∧ wide cs ≤ 2 := by unfold wide; split <;> omega
theorem take_snocN (cs : List Nat) (k : Nat) (h : k < cs.length) : cs.take (k + 1) = cs.take k ++ [cs[k]] := by rw [List.take_succ_eq_append_getElem h]
/-- A slice that the call made itself: empty, or its cells. -/
theorem own_cases {w : World} {base : Nat} {v : Value} {cs : List Nat} (h : w.ownsRow base 3 1 v cs.length (intsV cs)) : (v = .slice none 0 0 ∧ cs = []) ∨ ∃ g cap, v = .slice (some ⟨g, 0, none⟩) cs.length cap ∧ g < w.heap.size ∧ base ≤ g ∧ ∀ k, (hk : k < cs.length) → w.cell? ⟨g, k, none⟩ = some (.int .i64 (cs[k] : Nat)) := by
  rcases h.2 with ⟨rfl, h2⟩ | ⟨g, cap, cur, rfl, hg, _⟩
  · exact .inl ⟨rfl, List.length_eq_zero_iff.1 h2⟩
  · refine .inr ⟨g, cap, rfl, (h.lt g rfl).2, hg, fun k hk => ?_⟩
    rw [h.cellAt k (by omega), intsV, List.getElem?_map, List.getElem?_eq_getElem hk]
    rfl
def SRel (cs : List Nat) (sz : Nat) (w : World) (out i : Value) (wr : World) : Prop := ∃ (k : Nat) (s : ByteArray), i = .int .i64 k ∧ k ≤ cs.length ∧ out = .string s ∧ s.size = 1 + k * sz ∧ Below w.heap.size w wr
theorem r_squeeze (cs : List Nat) (base : Nat) (v : Value) (w : World) (hown : w.ownsRow base 3 1 v cs.length (intsV cs)) (hc : ∀ c ∈ cs, isChar c = true) (hz : cs.length ≤ 65536) :
    Calls Tryz.prog 219 #[v] w fun e w' => ∃ s : ByteArray, e = .returned (.string s) ∧ s.size = sqz cs ∧ Below w.heap.size w w' := by
  rcases own_cases hown with ⟨rfl, rfl⟩ | ⟨g, cap, rfl, hg, _, hcell⟩
  · go_enter Tryz.func219, Tryz.ntmps219
    go_wp2
    go_ret
    exact ⟨_, rfl, rfl, Below.refl _ _⟩
  · have HC := Lib.hid hcell
    clear hcell hown
    by_cases h0 : cs.length = 0
    · have hcs : cs = [] := List.length_eq_zero_iff.1 h0
      subst hcs
      go_enter Tryz.func219, Tryz.ntmps219
      go_wp2
      go_ret
      exact ⟨_, rfl, rfl, Below.refl _ _⟩
    · have h0' : ((cs.length : Int) == 0) = false := by rw [beq_eq_false_iff_ne]; omega
      have hsq := Lib.hid (show sqz cs = 1 + cs.length * wide cs by unfold sqz; rw [if_neg (by rw [List.isEmpty_iff_length_eq_zero]; exact h0)])
      have hc1 := conv1 w 8 (by omega) (by omega)
      have hc2 := conv1 w 16 (by omega) (by omega)
      go_enter Tryz.func219, Tryz.ntmps219
      go_wp2
      go_loop [3, 4] (fun sz i => ∃ k : Nat, k ≤ cs.length ∧ i = .int .i64 k ∧ sz = .int .i64 (wide (cs.take k) : Nat)) (fun _ i => cs.length - (intOf i).toNat)
      case atStart => exact ⟨0, Nat.zero_le _, rfl, rfl⟩
      case round =>
        obtain ⟨k, hk, rfl, rfl⟩ := hrel
        by_cases hlt : k < cs.length
        · have hck := HC.out k hlt
          have HW := Lib.hid (wide_snoc (cs.take k) cs[k])
          rw [← take_snocN cs k hlt] at HW
          have hi : (k : Int) < (cs.length : Int) := by omega
          by_cases hbig : 255 < cs[k]
          · have hb' : (255 : Int) < (cs[k] : Int) := by omega
            rw [if_pos hbig] at HW
            generalize cs[k] = q at *
            go_wp2
            go_round
            case rel => exact ⟨k + 1, by omega, by go_num, by rw [HW.out]; rfl⟩
            case measure => simp [intOf]; omega
          · have hb' : ¬ (255 : Int) < (cs[k] : Int) := by omega
            rw [if_neg hbig] at HW
            generalize cs[k] = q at *
            go_wp2
            go_round
            case rel => exact ⟨k + 1, by omega, by go_num, by rw [HW.out]⟩
            case measure => simp [intOf]; omega
        · have hk' : k = cs.length := by omega
          subst hk'
          rw [List.take_length]
          have hw := wide_le cs
          generalize wide cs = sz at *
          have HS : sz = 1 ∨ sz = 2 := by omega
          have hbel : Below w.heap.size w (w.alloc (.cells #[.int .u8 8] 5)) ∧ Below w.heap.size w (w.alloc (.cells #[.int .u8 16] 5)) := ⟨(Below.refl _ _).alloc (Nat.le_refl _) _, (Below.refl _ _).alloc (Nat.le_refl _) _⟩
          have HCH := Lib.hid hc
          clear hw
          rcases HS with rfl | rfl
          · go_wp2
            go_loopw [5, 6] (fun out i wr => SRel cs 1 w out i wr) (fun _ i _ => cs.length - (intOf i).toNat)
            case atStart => exact ⟨0, _, rfl, Nat.zero_le _, rfl, rfl, by first | exact hbel.1 | exact hbel.2⟩
            case round =>
              obtain ⟨k, s, rfl, hk, rfl, hs, hbw⟩ := hrel
              by_cases hlt : k < cs.length
              · have hck := (hbw.cell (by exact hg)).trans (HC.out k hlt)
                have hq := isChar_lt (HCH.out cs[k] (List.getElem_mem hlt))
                have hi : (k : Int) < (cs.length : Int) := by omega
                generalize cs[k] = q at *
                go_wp2_with fail
                refine (r_bytes q 1 _ hq (by omega)).mono ?_
                rintro e w2 ⟨t, rfl, ht, hb2⟩
                have hb2' := hbw.trans (hb2.mono hbw.size)
                go_wp2_with fail
                refine (r_reverse t _ (by omega)).mono ?_
                rintro e w3 ⟨t', rfl, ht', hb3⟩
                have hb3' := hb2'.trans (hb3.mono hb2'.size)
                go_wp2
                go_roundw
                case rel => exact ⟨k + 1, _, by go_num, by omega, rfl, by rw [ByteArray.size_append, hs, ht', ht]; omega, hb3'⟩
                case measure => simp [intOf]; omega
              · have hk' : k = cs.length := by omega
                subst hk'
                go_wp2
                go_ret
                exact ⟨_, rfl, by rw [hs, hsq.out], hbw⟩
          · go_wp2
            go_loopw [5, 6] (fun out i wr => SRel cs 2 w out i wr) (fun _ i _ => cs.length - (intOf i).toNat)
            case atStart => exact ⟨0, _, rfl, Nat.zero_le _, rfl, rfl, by first | exact hbel.1 | exact hbel.2⟩
            case round =>
              obtain ⟨k, s, rfl, hk, rfl, hs, hbw⟩ := hrel
              by_cases hlt : k < cs.length
              · have hck := (hbw.cell (by exact hg)).trans (HC.out k hlt)
                have hq := isChar_lt (HCH.out cs[k] (List.getElem_mem hlt))
                have hi : (k : Int) < (cs.length : Int) := by omega
                generalize cs[k] = q at *
                go_wp2_with fail
                refine (r_bytes q 2 _ hq (by omega)).mono ?_
                rintro e w2 ⟨t, rfl, ht, hb2⟩
                have hb2' := hbw.trans (hb2.mono hbw.size)
                go_wp2_with fail
                refine (r_reverse t _ (by omega)).mono ?_
                rintro e w3 ⟨t', rfl, ht', hb3⟩
                have hb3' := hb2'.trans (hb3.mono hb2'.size)
                go_wp2
                go_roundw
                case rel => exact ⟨k + 1, _, by go_num, by omega, rfl, by rw [ByteArray.size_append, hs, ht', ht]; omega, hb3'⟩
                case measure => simp [intOf]; omega
              · have hk' : k = cs.length := by omega
                subst hk'
                go_wp2
                go_ret
                exact ⟨_, rfl, by rw [hs, hsq.out], hbw⟩
theorem ret_se {s : ByteArray} {a b : Int} (h : a = b) : Ending.returned (.tuple #[.string s, .int .i64 a]) = .returned (.tuple #[.string s, .int .i64 b]) := by rw [h]
theorem r_compress (s : ByteArray) (cs : List Nat) (w : World) (hs : s.data.toList = encs cs) (hc : ∀ c ∈ cs, isChar c = true) (hz : s.size ≤ 65536) :
    Calls Tryz.prog 116 #[.string s] w fun e w' => ∃ t : ByteArray, e = .returned (.tuple #[.string t, .int .i64 0]) ∧ t.size = sqz cs ∧ Below w.heap.size w w' := by
  have HC := Lib.hid (r_chars s cs w hs hc hz)
  have hcl : cs.length ≤ 65536 := by have := (encs_len cs).1; rw [← hs, len_data] at this; omega
  have HQ := Lib.hid (fun (v : Value) (W : World) (h : W.ownsRow w.heap.size 3 1 v cs.length (intsV cs)) => r_squeeze cs _ v W h hc hcl)
  clear hs hc
  go_enter Tryz.func116, Tryz.ntmps116
  go_wp2_with fail
  refine HC.out.mono ?_
  rintro e w1 ⟨v, rfl, hown, hb1⟩
  go_wp2_with fail
  refine (HQ.out v _ hown).mono ?_
  rintro e w2 ⟨t, rfl, ht, hb2⟩
  go_wp2
  go_ret2
  exact ⟨_, rfl, ht, hb1.trans (hb2.mono hb1.size)⟩
end Go.Proofs.YtmgbbnnjbgemdaaGreatDoor

/- Law 45, directories: the reference's UTF-8 of characters, and the text of compressed Unicode. -/
namespace Go.Proofs.YtmgbbnnjbgemdaaGreatDoor
open Go.RowKit
set_option maxRecDepth 1000000
set_option maxHeartbeats 1600000
theorem new_cells (W : World) (l : List Value) (e : TypeId) : ∀ j u, l[j]? = some u → (W.alloc (.cells l.toArray e)).cell? ((⟨W.heap.size, 0, none⟩ : Addr).add j) = some u := by
  intro j u hj
  have e : (({ block := W.heap.size, off := 0 } : Addr).add j) = ⟨W.heap.size, j, none⟩ := by
    unfold Addr.add
    by_cases hz : j = 0
    · subst hz; rfl
    · rw [if_neg hz]; simp
  rw [e, World.cell?_alloc_at _ _ _ _ rfl]
  simpa using hj
theorem bytesV_append (a b : List UInt8) : bytesV (a ++ b) = bytesV a ++ bytesV b := by simp [bytesV]
theorem encs_snoc (a : List Nat) (c : Nat) : encs (a ++ [c]) = encs a ++ enc c := by simp [encs]
theorem one_cells {l : List UInt8} : ∀ u ∈ bytesV l, u.oneCell' = true := by
  intro u hu
  obtain ⟨b, _, rfl⟩ := List.mem_map.1 hu
  rfl
def URel (cs : List Nat) (w : World) (out i : Value) (wr : World) : Prop := ∃ k : Nat, i = .int .i64 k ∧ k ≤ cs.length ∧ wr.ownsRow w.heap.size 5 1 out (encs (cs.take k)).length (bytesV (encs (cs.take k))) ∧ Below w.heap.size w wr
theorem r_utf8 (cs : List Nat) (base : Nat) (v : Value) (w : World) (hown : w.ownsRow base 3 1 v cs.length (intsV cs)) (hc : ∀ c ∈ cs, isChar c = true) (hz : cs.length ≤ 65536) :
    Calls Tryz.prog 114 #[v] w fun e w' => e = .returned (.string ⟨(encs cs).toArray⟩) ∧ Below w.heap.size w w' := by
  obtain ⟨i0, hi, hz0, hz1, hz2⟩ := info_parts info_byte
  rcases own_cases hown with ⟨rfl, rfl⟩ | ⟨g, cap, rfl, hg, _, hcell⟩
  · have hconv := conv_own [] 0 (World.ownsRow_lit (base := w.heap.size) (e := 5) (size := 1) w #[] 0 (Nat.le_refl _) (by decide) rfl)
    go_enter Tryz.func114, Tryz.ntmps114
    go_wp2
    refine wp_loop_rounds 1 ?_
    rw [rounds_succ]
    go_wp2
    go_ret
    exact ⟨rfl, (Below.refl _ _).alloc (Nat.le_refl _) _⟩
  · have HC := Lib.hid hcell
    have HCH := Lib.hid hc
    clear hcell hown hc
    go_enter Tryz.func114, Tryz.ntmps114
    go_wp2
    go_loopw [3, 4] (fun out i wr => URel cs w out i wr) (fun _ i _ => cs.length - (intOf i).toNat)
    case atStart => exact ⟨0, rfl, Nat.zero_le _, World.ownsRow_lit _ _ 0 (Nat.le_refl _) (by decide) rfl, (Below.refl _ _).alloc (Nat.le_refl _) _⟩
    case round =>
      obtain ⟨k, rfl, hk, hown, hbw⟩ := hrel
      by_cases hlt : k < cs.length
      · have hck := (hbw.cell (by exact hg)).trans (HC.out k hlt)
        have hq := isChar_lt (HCH.out cs[k] (List.getElem_mem hlt))
        have hi' : (k : Int) < (cs.length : Int) := by omega
        have HT := Lib.hid (take_snocN cs k hlt)
        have hlen : (encs (cs.take k)).length ≤ 3 * 65536 := by have := (encs_len (cs.take k)).2; rw [List.length_take] at this; omega
        generalize cs[k] = q at *
        have hE : encs (cs.take (k + 1)) = encs (cs.take k) ++ enc q := by rw [HT.out, encs_snoc]
        have HE := Lib.hid hE
        clear hE HT
        generalize encs (cs.take k) = L at *
        by_cases h1 : q < 128
        · have hV := Lib.hid (show bytesV (enc q) = [.int .u8 (q : Int)] by rw [enc1 h1]; simp [bytesV]; omega)
          have hEL := Lib.hid (show (enc q).length = 1 by rw [enc1 h1]; rfl)
          have h1' : (q : Int) < 128 := by omega
          go_wp2_with (first
            | (at_builtin; refine wpList_append_own _ rfl _ _ 149 rfl w.heap.size 5 i0 (.int .u8 0) 1 1 Tryz.underlying149 hi hz0 hz1 hz2 rfl (by decide) _ _ _ rfl (hown.alloc _) ⟨wr.heap.size, 0, none⟩ 1 1 (bytesV (enc q)) rfl (by rw [hV.out]; rfl) ?_ one_cells ?_ ?_ ?_ ?_)
            | go_in)
          · rw [hV.out]; first | exact new_cells _ _ _ | exact fun _ _ h => h
          · unfold maxLen; omega
          · omega
          · have := hbw.size; first | exact (hbw.alloc hbw.size _).size | omega
          · intro v' w2 hown' hgrow _
            have hb2 := (hbw.alloc hbw.size _).grown hgrow (hbw.alloc hbw.size _).size (fun j hj => (hown.lt j hj).1)
            rw [← bytesV_append, ← HE.out] at hown'
            go_wp2
            go_roundw
            case rel => exact ⟨k + 1, by go_num, by omega, by rw [show (encs (cs.take (k + 1))).length = L.length + 1 by rw [HE.out, List.length_append, hEL.out]]; exact hown', hb2⟩
            case measure => simp [intOf]; omega
        · have h1' : ¬ (q : Int) < 128 := by omega
          by_cases h2 : q < 2048
          · have hV := Lib.hid (show bytesV (enc q) = [.int .u8 (192 + (q : Int) / 64), .int .u8 (128 + (q : Int) % 64)] by rw [enc2 (by omega) h2]; simp [bytesV]; omega)
            have hEL := Lib.hid (show (enc q).length = 2 by rw [enc2 (by omega) h2]; rfl)
            have h2' : (q : Int) < 2048 := by omega
            go_wp2_with (first
              | (at_builtin; refine wpList_append_own _ rfl _ _ 149 rfl w.heap.size 5 i0 (.int .u8 0) 1 1 Tryz.underlying149 hi hz0 hz1 hz2 rfl (by decide) _ _ _ rfl (hown.alloc _) ⟨wr.heap.size, 0, none⟩ 2 2 (bytesV (enc q)) rfl (by rw [hV.out]; rfl) ?_ one_cells ?_ ?_ ?_ ?_)
              | go_in)
            · rw [hV.out]; first | exact new_cells _ _ _ | exact fun _ _ h => h
            · unfold maxLen; omega
            · omega
            · have := hbw.size; first | exact (hbw.alloc hbw.size _).size | omega
            · intro v' w2 hown' hgrow _
              have hb2 := (hbw.alloc hbw.size _).grown hgrow (hbw.alloc hbw.size _).size (fun j hj => (hown.lt j hj).1)
              rw [← bytesV_append, ← HE.out] at hown'
              go_wp2
              go_roundw
              case rel => exact ⟨k + 1, by go_num, by omega, by rw [show (encs (cs.take (k + 1))).length = L.length + 2 by rw [HE.out, List.length_append, hEL.out]]; exact hown', hb2⟩
              case measure => simp [intOf]; omega
          · have hV := Lib.hid (show bytesV (enc q) = [.int .u8 (224 + (q : Int) / 4096), .int .u8 (128 + (q : Int) / 64 % 64), .int .u8 (128 + (q : Int) % 64)] by rw [enc3 (by omega)]; simp [bytesV]; omega)
            have hEL := Lib.hid (show (enc q).length = 3 by rw [enc3 (by omega)]; rfl)
            have h2' : ¬ (q : Int) < 2048 := by omega
            go_wp2_with (first
              | (at_builtin; refine wpList_append_own _ rfl _ _ 149 rfl w.heap.size 5 i0 (.int .u8 0) 1 1 Tryz.underlying149 hi hz0 hz1 hz2 rfl (by decide) _ _ _ rfl (hown.alloc _) ⟨wr.heap.size, 0, none⟩ 3 3 (bytesV (enc q)) rfl (by rw [hV.out]; rfl) ?_ one_cells ?_ ?_ ?_ ?_)
              | go_in)
            · rw [hV.out]; first | exact new_cells _ _ _ | exact fun _ _ h => h
            · unfold maxLen; omega
            · omega
            · have := hbw.size; first | exact (hbw.alloc hbw.size _).size | omega
            · intro v' w2 hown' hgrow _
              have hb2 := (hbw.alloc hbw.size _).grown hgrow (hbw.alloc hbw.size _).size (fun j hj => (hown.lt j hj).1)
              rw [← bytesV_append, ← HE.out] at hown'
              go_wp2
              go_roundw
              case rel => exact ⟨k + 1, by go_num, by omega, by rw [show (encs (cs.take (k + 1))).length = L.length + 3 by rw [HE.out, List.length_append, hEL.out]]; exact hown', hb2⟩
              case measure => simp [intOf]; omega
      · have hk' : k = cs.length := by omega
        subst hk'
        rw [List.take_length] at hown
        have hconv := conv_own (encs cs) _ hown
        go_wp2
        go_ret
        exact ⟨rfl, hbw⟩
end Go.Proofs.YtmgbbnnjbgemdaaGreatDoor

/- Law 45, directories: the reference's text of compressed Unicode. -/
namespace Go.Proofs.YtmgbbnnjbgemdaaGreatDoor
open Go.RowKit
set_option maxRecDepth 1000000
set_option maxHeartbeats 1600000
/-- What a text of compressed Unicode comes out as. -/
def XOut (o : Option (List Nat)) (t : ByteArray) (e : Int) : Prop := match o with | some cs => t.data.toList = encs cs ∧ e = 0 | none => e ≠ 0
theorem drop_get (s : ByteArray) (i : Nat) (h : i < s.size) : s.data.toList.drop i = s[i] :: s.data.toList.drop (i + 1) := by
  rw [List.drop_eq_getElem_cons (by simpa using h)]; rfl
theorem chars1_step {l r : List UInt8} {a : List Nat} {b : UInt8} (h : chars1 l = (chars1 (b :: r)).map (a ++ ·)) (hb : isChar b.toNat = true) : chars1 l = (chars1 r).map ((a ++ [b.toNat]) ++ ·) := by
  rw [h, chars1, if_pos hb, Option.map_map]
  congr 1
  funext x
  simp
theorem chars1_bad {l r : List UInt8} {a : List Nat} {b : UInt8} (h : chars1 l = (chars1 (b :: r)).map (a ++ ·)) (hb : isChar b.toNat = false) : chars1 l = none := by
  rw [h, chars1, if_neg (by simp [hb])]; rfl
theorem chars2_step {l r : List UInt8} {a : List Nat} {b c : UInt8} (h : chars2 l = (chars2 (b :: c :: r)).map (a ++ ·)) (hb : isChar (b.toNat * 256 + c.toNat) = true) : chars2 l = (chars2 r).map ((a ++ [b.toNat * 256 + c.toNat]) ++ ·) := by
  rw [h, chars2, if_pos hb, Option.map_map]
  congr 1
  funext x
  simp
theorem chars2_bad {l r : List UInt8} {a : List Nat} {b c : UInt8} (h : chars2 l = (chars2 (b :: c :: r)).map (a ++ ·)) (hb : isChar (b.toNat * 256 + c.toNat) = false) : chars2 l = none := by
  rw [h, chars2, if_neg (by simp [hb])]; rfl
theorem chars2_odd : ∀ (n : Nat) (l : List UInt8), l.length = 2 * n + 1 → chars2 l = none
  | 0, [_], _ => rfl
  | n + 1, a :: b :: l, h => by
    have := chars2_odd n l (by simp at h; omega)
    rw [chars2, this]
    split <;> rfl
  | n + 1, [_], h => by simp at h
theorem chars_8 (l : List UInt8) : chars (8 :: l) = chars1 l := rfl
theorem chars_16 (l : List UInt8) : chars (16 :: l) = chars2 l := rfl
theorem chars_other (b : UInt8) (l : List UInt8) (h8 : b.toNat ≠ 8) (h16 : b.toNat ≠ 16) : chars (b :: l) = none := by
  rw [chars, if_neg (by rintro rfl; exact h8 rfl), if_neg (by rintro rfl; exact h16 rfl)]
theorem ret_sx {s : ByteArray} {a b : Int} (h : a = b) : Ending.returned (.tuple #[.string s, .int .i64 a]) = .returned (.tuple #[.string s, .int .i64 b]) := by rw [h]
theorem own_slice' {w : World} {base : Nat} {e : TypeId} {v : Value} {n : Nat} {xs : List Value} (h : w.ownsRow base e 1 v n xs) : ∃ (a : Option Addr) (m c : Nat), v = .slice a m c := by
  rcases h.2 with ⟨rfl, _⟩ | ⟨g', cap, cur, rfl, _⟩
  · exact ⟨_, _, _, rfl⟩
  · exact ⟨_, _, _, rfl⟩
def ERel (s : ByteArray) (w : World) (out i : Value) (wr : World) : Prop := ∃ (k : Nat) (a : List Nat), i = .int .i64 (1 + (k : Int)) ∧ 1 + k ≤ s.size ∧ a.length = k ∧ (∀ c ∈ a, isChar c = true) ∧ chars1 (s.data.toList.drop 1) = (chars1 (s.data.toList.drop (1 + k))).map (a ++ ·) ∧ wr.ownsRow w.heap.size 3 1 out k (intsV a) ∧ Below w.heap.size w wr
theorem nonempty_str {s : ByteArray} (h : 0 < s.size) : s.toList.isEmpty = false := by
  rw [ByteArray.toList_eq]
  have hl := len_data s
  cases he : s.data.toList with
  | nil => rw [he] at hl; simp at hl; omega
  | cons b l => rfl
theorem r_expand8 (s : ByteArray) (w : World) (h0 : 0 < s.size) (h8 : s[0].toNat = 8) (hz : s.size ≤ 65536) :
    Calls Tryz.prog 51 #[.string s] w fun e w' => ∃ (t : ByteArray) (er : Int), e = .returned (.tuple #[.string t, .int .i64 er]) ∧ XOut (chars1 (s.data.toList.drop 1)) t er ∧ Below w.heap.size w w' := by
  obtain ⟨i0, hi, hz0, hz1, hz2⟩ := info_parts info_int
  have hi0 : (0 : Int) < s.size := by omega
  have hs0 : (s.size : Int) ≤ 65536 := by omega
  have hne := nonempty_str h0
  go_enter Tryz.func51, Tryz.ntmps51
  go_wp2
  go_loopw [5, 6] (fun out i wr => ERel s w out i wr) (fun _ i _ => s.size - (intOf i).toNat)
  case atStart => exact ⟨0, [], rfl, by omega, rfl, by simp, by simp, World.ownsRow_lit _ _ 0 (Nat.le_refl _) (by decide) rfl, (Below.refl _ _).alloc (Nat.le_refl _) _⟩
  case round =>
    obtain ⟨k, a, rfl, hk, hal, hca, hch, hown, hbw⟩ := hrel
    by_cases hlt : 1 + k < s.size
    · have hb : s[1 + k].toNat < 256 := UInt8.toNat_lt _
      rw [drop_get s (1 + k) hlt] at hch
      have hi1 : (1 : Int) + k < s.size := by omega
      have hi2 : ((1 : Int) + k).toNat = 1 + k := by omega
      have hi3 : (0 : Int) ≤ 1 + k := by omega
      have HC := Lib.hid (fun W : World => r_char32 s[1 + k].toNat W)
      cases hic : isChar s[1 + k].toNat with
      | false =>
        rw [hic] at HC
        have HX := Lib.hid (chars1_bad hch hic)
        clear hch hic
        go_wp2_with fail
        refine (HC.out _).mono ?_
        rintro e w2 ⟨rfl, rfl⟩
        go_wp2
        go_ret2
        exact ⟨_, _, rfl, by rw [HX.out]; show (2 : Int) ≠ 0; decide, hbw⟩
      | true =>
        rw [hic] at HC
        have HX := Lib.hid (chars1_step hch hic)
        have HI := Lib.hid hic
        clear hch hic
        go_wp2_with fail
        refine (HC.out _).mono ?_
        rintro e w2 ⟨rfl, rfl⟩
        go_wp2_with (first
          | (at_builtin; refine wpList_append_own _ rfl _ _ 22 rfl w.heap.size 3 i0 (.int .i64 0) 1 8 Tryz.underlying22 hi hz0 hz1 hz2 rfl (by decide) _ _ _ rfl (hown.alloc _) ⟨w2.heap.size, 0, none⟩ 1 1 [.int .i64 (s[1 + k].toNat : Int)] rfl rfl ?_ ?_ ?_ ?_ ?_ ?_)
          | go_in)
        · intro j u hj
          match j, hj with
          | 0, hj => simp at hj; subst hj; exact new_one _ _ _ _ rfl
        · intro u hu; simp at hu; subst hu; rfl
        · unfold maxLen; omega
        · omega
        · exact (hbw.alloc hbw.size _).size
        · intro v' w3 hown' hgrow _
          have hb2 := (hbw.alloc hbw.size _).grown hgrow (hbw.alloc hbw.size _).size (fun j hj => (hown.lt j hj).1)
          go_wp2
          go_roundw
          case rel => exact ⟨k + 1, a ++ [s[1 + k].toNat], by go_num, by omega, by simp [hal], by intro c hc; rcases List.mem_append.1 hc with hc | hc; exact hca c hc; simp at hc; subst hc; exact HI.out, by rw [HX.out]; rfl, by rw [intsV_snoc]; exact hown', hb2⟩
          case measure => simp [intOf]; omega
    · have hk' : 1 + k = s.size := by omega
      have HX := Lib.hid (show chars1 (s.data.toList.drop 1) = some a by rw [hch, List.drop_eq_nil_of_le (by rw [len_data]; omega)]; simp [chars1])
      have hi1 : (1 : Int) + k = s.size := by omega
      subst hal
      have HU := Lib.hid (r_utf8 a _ _ _ hown hca (by omega))
      obtain ⟨a1, m1, c1, rfl⟩ := own_slice' hown
      clear hch
      go_wp2_with fail
      refine HU.out.mono ?_
      rintro e w2 ⟨rfl, hb2⟩
      go_wp2
      go_ret2
      exact ⟨_, _, rfl, by rw [HX.out]; exact ⟨rfl, rfl⟩, hbw.trans (hb2.mono hbw.size)⟩
end Go.Proofs.YtmgbbnnjbgemdaaGreatDoor

/- Law 45, directories: the reference's text of compressed Unicode (2). -/
namespace Go.Proofs.YtmgbbnnjbgemdaaGreatDoor
open Go.RowKit
set_option maxRecDepth 1000000
set_option maxHeartbeats 400000
def E2Rel (s : ByteArray) (w : World) (out i : Value) (wr : World) : Prop := ∃ (j : Nat) (a : List Nat), i = .int .i64 j ∧ j ≤ s.size ∧ j = 1 + 2 * a.length ∧ (∀ c ∈ a, isChar c = true) ∧ chars2 (s.data.toList.drop 1) = (chars2 (s.data.toList.drop j)).map (a ++ ·) ∧ wr.ownsRow w.heap.size 3 1 out a.length (intsV a) ∧ Below w.heap.size w wr
theorem r_expand_odd (s : ByteArray) (w : World) (h0 : 0 < s.size) (h8 : s[0].toNat = 16) (hz : s.size ≤ 65536) (m : Nat) (hm : s.size = 2 * m + 2) :
    Calls Tryz.prog 51 #[.string s] w fun e w' => ∃ (t : ByteArray) (er : Int), e = .returned (.tuple #[.string t, .int .i64 er]) ∧ XOut (chars2 (s.data.toList.drop 1)) t er ∧ Below w.heap.size w w' := by
  have hX : chars2 (s.data.toList.drop 1) = none := chars2_odd m _ (by rw [List.length_drop, len_data]; omega)
  rw [hX]
  have hi0 : (0 : Int) < s.size := by omega
  have hs0 : (s.size : Int) ≤ 65536 := by omega
  have hne := nonempty_str h0
  have hmod : ((s.size : Int) - 1) % 2 = 1 := by omega
  have hmod2 : ((s.size : Int) - 1).tmod 2 = 1 := by rw [Int.tmod_eq_emod_of_nonneg (by omega)]; omega
  clear hm hX
  go_enter Tryz.func51, Tryz.ntmps51
  go_wp2
  go_ret2
  exact ⟨_, _, rfl, by show (3 : Int) ≠ 0; decide, Below.refl _ _⟩
theorem r_expand16 (s : ByteArray) (w : World) (h0 : 0 < s.size) (h8 : s[0].toNat = 16) (hz : s.size ≤ 65536) (m : Nat) (hm : s.size = 2 * m + 1) :
    Calls Tryz.prog 51 #[.string s] w fun e w' => ∃ (t : ByteArray) (er : Int), e = .returned (.tuple #[.string t, .int .i64 er]) ∧ XOut (chars2 (s.data.toList.drop 1)) t er ∧ Below w.heap.size w w' := by
  obtain ⟨i0, hi, hz0, hz1, hz2⟩ := info_parts info_int
  have hi0 : (0 : Int) < s.size := by omega
  have hs0 : (s.size : Int) ≤ 65536 := by omega
  have hne := nonempty_str h0
  have hmod : ((s.size : Int) - 1) % 2 = 0 := by omega
  have hmod2 : ((s.size : Int) - 1).tmod 2 = 0 := by rw [Int.tmod_eq_emod_of_nonneg (by omega)]; omega
  have HM := Lib.hid hm
  clear hm
  go_enter Tryz.func51, Tryz.ntmps51
  go_wp2
  go_loopw [5, 6] (fun out i wr => E2Rel s w out i wr) (fun _ i _ => s.size - (intOf i).toNat)
  case atStart => exact ⟨1, [], rfl, by omega, rfl, by simp, by simp, World.ownsRow_lit _ _ 0 (Nat.le_refl _) (by decide) rfl, (Below.refl _ _).alloc (Nat.le_refl _) _⟩
  case round =>
    obtain ⟨j, a, rfl, hk, hal, hca, hch, hown, hbw⟩ := hrel
    have HAL := Lib.hid hal
    have hjm : j = s.size ∨ j + 1 < s.size := by have := HM.out; omega
    have hall : a.length ≤ 65536 := by omega
    clear hal hmod hmod2
    by_cases hlt2 : j + 1 < s.size
    · have hlt : j < s.size := by omega
      have hb : s[j].toNat < 256 := UInt8.toNat_lt _
      have hb2 : s[j + 1].toNat < 256 := UInt8.toNat_lt _
      rw [drop_get s j hlt, drop_get s (j + 1) hlt2] at hch
      have hi1 : (j : Int) < s.size := by omega
      have hi4 : (j : Int) + 1 < s.size := by omega
      have hi5 : ((j : Int) + 1).toNat = j + 1 := by omega
      have hi6 : (0 : Int) ≤ (j : Int) + 1 := by omega
      have HC := Lib.hid (fun W : World => r_char32 (s[j].toNat * 256 + s[j + 1].toNat) W)
      have e1 : ((s[j].toNat * 256 + s[j + 1].toNat : Nat) : Int) = 256 * (s[j].toNat : Int) + (s[j + 1].toNat : Int) := by omega
      rw [e1] at HC
      have HE1 := Lib.hid e1
      clear e1
      cases hic : isChar (s[j].toNat * 256 + s[j + 1].toNat) with
      | false =>
        rw [hic] at HC
        have HX := Lib.hid (chars2_bad hch hic)
        clear hch hic
        go_wp2_with fail
        refine (HC.out _).mono ?_
        rintro e w2 ⟨rfl, rfl⟩
        go_wp2
        go_ret2
        exact ⟨_, _, rfl, by rw [HX.out]; show (2 : Int) ≠ 0; decide, hbw⟩
      | true =>
        rw [hic] at HC
        have HX := Lib.hid (chars2_step hch hic)
        have HI := Lib.hid hic
        clear hch hic
        go_wp2_with fail
        refine (HC.out _).mono ?_
        rintro e w2 ⟨rfl, rfl⟩
        go_wp2_with (first
          | (at_builtin; refine wpList_append_own _ rfl _ _ 22 rfl w.heap.size 3 i0 (.int .i64 0) 1 8 Tryz.underlying22 hi hz0 hz1 hz2 rfl (by decide) _ _ _ rfl (hown.alloc _) ⟨w2.heap.size, 0, none⟩ 1 1 [.int .i64 (256 * (s[j].toNat : Int) + (s[j + 1].toNat : Int))] rfl rfl ?_ ?_ ?_ ?_ ?_ ?_)
          | go_in)
        · intro j u hj
          match j, hj with
          | 0, hj => simp at hj; subst hj; exact new_one _ _ _ _ rfl
        · intro u hu; simp at hu; subst hu; rfl
        · unfold maxLen; omega
        · omega
        · exact (hbw.alloc hbw.size _).size
        · intro v' w3 hown' hgrow _
          have hb2 := (hbw.alloc hbw.size _).grown hgrow (hbw.alloc hbw.size _).size (fun j hj => (hown.lt j hj).1)
          rw [← HE1.out] at hown'
          go_wp2
          go_roundw
          case rel => exact ⟨j + 2, a ++ [s[j].toNat * 256 + s[j + 1].toNat], by go_num, by omega, by have := HAL.out; rw [List.length_append]; simp only [List.length_cons, List.length_nil]; omega, by intro c hc; rcases List.mem_append.1 hc with hc | hc; exact hca c hc; simp at hc; subst hc; exact HI.out, by rw [HX.out], by rw [intsV_snoc, List.length_append]; exact hown', hb2⟩
          case measure => simp [intOf]; omega
    · have hk' : j = s.size := by omega
      clear hjm
      have HX := Lib.hid (show chars2 (s.data.toList.drop 1) = some a by rw [hch, List.drop_eq_nil_of_le (by rw [len_data]; omega)]; simp [chars2])
      subst hk'
      have HU := Lib.hid (r_utf8 a _ _ _ hown hca (by omega))
      obtain ⟨a1, m1, c1, rfl⟩ := own_slice' hown
      clear hch
      go_wp2_with fail
      refine HU.out.mono ?_
      rintro e w2 ⟨rfl, hb2⟩
      go_wp2
      go_ret2
      exact ⟨_, _, rfl, by rw [HX.out]; exact ⟨rfl, rfl⟩, hbw.trans (hb2.mono hbw.size)⟩
theorem r_expand_bad (s : ByteArray) (w : World) (h0 : 0 < s.size) (h8 : s[0].toNat ≠ 8) (h16 : s[0].toNat ≠ 16) (hz : s.size ≤ 65536) :
    Calls Tryz.prog 51 #[.string s] w fun e w' => ∃ (t : ByteArray) (er : Int), e = .returned (.tuple #[.string t, .int .i64 er]) ∧ er ≠ 0 ∧ Below w.heap.size w w' := by
  have hi0 : (0 : Int) < s.size := by omega
  have hs0 : (s.size : Int) ≤ 65536 := by omega
  have hne := nonempty_str h0
  have hb : s[0].toNat < 256 := UInt8.toNat_lt _
  have e1 : ((s[0].toNat : Int) != 8) = true := by rw [bne_iff_ne]; omega
  have e2 : ((s[0].toNat : Int) != 16) = true := by rw [bne_iff_ne]; omega
  clear h8 h16
  go_enter Tryz.func51, Tryz.ntmps51
  go_wp2
  go_ret2
  exact ⟨_, _, rfl, by decide, Below.refl _ _⟩
theorem r_expand (s : ByteArray) (w : World) (hz : s.size ≤ 65536) :
    Calls Tryz.prog 51 #[.string s] w fun e w' => ∃ (t : ByteArray) (er : Int), e = .returned (.tuple #[.string t, .int .i64 er]) ∧ XOut (chars s.data.toList) t er ∧ Below w.heap.size w w' := by
  by_cases h0 : 0 < s.size
  · have hd := drop_get s 0 h0
    rw [List.drop_zero] at hd
    by_cases h8 : s[0].toNat = 8
    · have e : s[0] = 8 := UInt8.toNat.inj h8
      rw [hd, e, chars_8]
      exact r_expand8 s w h0 h8 hz
    · by_cases h16 : s[0].toNat = 16
      · have e : s[0] = 16 := UInt8.toNat.inj h16
        rw [hd, e, chars_16]
        rcases Nat.mod_two_eq_zero_or_one s.size with hm | hm
        · exact r_expand_odd s w h0 h16 hz ((s.size - 2) / 2) (by omega)
        · exact r_expand16 s w h0 h16 hz ((s.size - 1) / 2) (by omega)
      · rw [hd, chars_other _ _ h8 h16]
        exact (r_expand_bad s w h0 h8 h16 hz).mono fun e w' ⟨t, er, h1, h2, h3⟩ => ⟨t, er, h1, h2, h3⟩
  · have hs : s = ⟨#[]⟩ := str_eq (by rw [show s.data.toList = [] from List.length_eq_zero_iff.1 (by rw [len_data]; omega)])
    subst hs
    go_enter Tryz.func51, Tryz.ntmps51
    go_wp2
    go_ret2
    exact ⟨_, _, rfl, ⟨rfl, rfl⟩, Below.refl _ _⟩
end Go.Proofs.YtmgbbnnjbgemdaaGreatDoor
