/- Law 45, UdfcheckDirectories: walks of the program: strings, file identifiers. -/
import Derived.Test.YtmgbbnnjbgemdaaGreatDoorDirb
import Derived.Test.YtmgbbnnjbgemdaaGreatDoorDirc
import Derived.Test.YtmgbbnnjbgemdaaGreatDoorShelf
import Derived.Shelf.Strings.BuilderRune
import Derived.Laws.Externs
import Derived.OwnWalk
import Derived.Test.YtmgbbnnjbgemdaaGreatDoorDird
import Derived.Deep.CutRange
/- Law 45, directories: the program's compressed Unicode: its size. -/
namespace Go.Proofs.YtmgbbnnjbgemdaaGreatDoor
open Go.RowKit
set_option maxRecDepth 1000000
set_option maxHeartbeats 1600000
def QRel5 (cs : List Nat) (sz : Nat) (w : World) (out i : Value) (wr : World) : Prop := ∃ (k : Nat) (l : List UInt8), i = .int .i64 k ∧ k ≤ cs.length ∧ l.length = 1 + k * sz ∧ wr.ownsRow w.heap.size 5 1 out l.length (bytesV l) ∧ Below w.heap.size w wr
theorem p_comp1 (cs : List Nat) (base : Nat) (v : Value) (w : World) (hown : w.ownsRow base 3 1 v cs.length (intsV cs)) (hc : ∀ c ∈ cs, isChar c = true) (hz : cs.length ≤ 65536) (h1 : cs ≠ []) :
    Calls Tryz.prog 370 #[v, .int .i64 1] w fun e w' => ∃ s : ByteArray, e = .returned (.string s) ∧ s.size = 1 + cs.length * 1 ∧ Below w.heap.size w w' := by
  obtain ⟨i0, hi, hz0, hz1, hz2⟩ := info_parts info_byte
  rcases own_cases hown with ⟨rfl, h2⟩ | ⟨g, cap, rfl, hg, _, hcell⟩
  · exact absurd h2 h1
  · have HC := Lib.hid hcell
    have HCH := Lib.hid hc
    clear hcell hown hc h1
    have own0 : (w.alloc (.cells #[.int .u8 8] 5)).ownsRow w.heap.size 5 1 (.slice (some ⟨w.heap.size, 0, none⟩) 1 1) 1 (bytesV [8]) := World.ownsRow_lit _ _ 1 (Nat.le_refl _) (by decide) rfl
    have H0 : Hid (QRel5 cs 1 w (.slice (some ⟨w.heap.size, 0, none⟩) 1 1) (.int .i64 0) (w.alloc (.cells #[.int .u8 8] 5))) := ⟨0, [8], rfl, Nat.zero_le _, rfl, own0, (Below.refl _ _).alloc (Nat.le_refl _) _⟩
    clear own0
    go_enter Tryz.func370, Tryz.ntmps370
    go_wp2
    go_loopw [5, 15] (fun out i wr => QRel5 cs 1 w out i wr) (fun _ i _ => cs.length - (intOf i).toNat)
    case atStart => exact H0.out
    case round =>
      obtain ⟨k, l, rfl, hk, hl, hown, hbw⟩ := hrel
      by_cases hlt : k < cs.length
      · have hck := (hbw.cell (by exact hg)).trans (HC.out k hlt)
        have hq := isChar_lt (HCH.out cs[k] (List.getElem_mem hlt))
        have hi' : (k : Int) < (cs.length : Int) := by omega
        generalize cs[k] = q at *
        have hll : l.length ≤ 131073 := by omega
        have HL := Lib.hid hl
        clear hl H0
        have e1 : ((q % 256 : Nat) : Int) = (q : Int) % 256 := by omega
        have hB1 := byte_of (q % 256) (by omega)
        rw [e1] at hB1
        have HB1 := Lib.hid hB1
        clear hB1 e1
        go_wp2
        refine wp_loop_rounds 2 ?_
        rw [rounds_succ]
        go_wp2_with (first
          | (at_builtin; refine wpList_append_own _ rfl _ _ 149 rfl w.heap.size 5 i0 (.int .u8 0) 1 1 Tryz.underlying149 hi hz0 hz1 hz2 rfl (by decide) _ _ _ rfl (hown.alloc _) ⟨wr.heap.size, 0, none⟩ 1 1 [.int .u8 ((q : Int) % 256)] rfl rfl ?_ ?_ ?_ ?_ ?_ ?_)
          | go_in)
        · intro j u hj
          match j, hj with
          | 0, hj => simp at hj; subst hj; exact new_one _ _ _ _ rfl
        · intro u hu; simp at hu; subst hu; rfl
        · unfold maxLen; omega
        · omega
        · exact (hbw.alloc hbw.size _).size
        · intro v2 w2 hown' hgrow _
          have hb2 := (hbw.alloc hbw.size _).grown hgrow (hbw.alloc hbw.size _).size (fun j hj => (hown.lt j hj).1)
          rw [HB1.out, ← bytesV_snoc] at hown'
          have hown2 := hown'
          clear hown' hgrow
          go_wp2
          rw [rounds_succ]
          go_wp2
          go_roundw
          case rel => exact ⟨k + 1, l ++ [UInt8.ofNat (q % 256)], by first | rfl | go_num, by omega, by have := HL.out; rw [List.length_append]; simp only [List.length_cons, List.length_nil]; omega, by rw [List.length_append]; exact hown2, hb2⟩
          case measure => simp [intOf]; omega
      · have hk' : k = cs.length := by omega
        have HL := Lib.hid hl
        have hconv := conv_own l _ hown
        subst hk'
        clear hl
        go_wp2
        go_ret
        exact ⟨_, rfl, by rw [← len_data]; simpa using HL.out, hbw⟩
theorem p_comp2 (cs : List Nat) (base : Nat) (v : Value) (w : World) (hown : w.ownsRow base 3 1 v cs.length (intsV cs)) (hc : ∀ c ∈ cs, isChar c = true) (hz : cs.length ≤ 65536) (h1 : cs ≠ []) :
    Calls Tryz.prog 370 #[v, .int .i64 2] w fun e w' => ∃ s : ByteArray, e = .returned (.string s) ∧ s.size = 1 + cs.length * 2 ∧ Below w.heap.size w w' := by
  obtain ⟨i0, hi, hz0, hz1, hz2⟩ := info_parts info_byte
  rcases own_cases hown with ⟨rfl, h2⟩ | ⟨g, cap, rfl, hg, _, hcell⟩
  · exact absurd h2 h1
  · have HC := Lib.hid hcell
    have HCH := Lib.hid hc
    clear hcell hown hc h1
    have own0 : (w.alloc (.cells #[.int .u8 16] 5)).ownsRow w.heap.size 5 1 (.slice (some ⟨w.heap.size, 0, none⟩) 1 1) 1 (bytesV [16]) := World.ownsRow_lit _ _ 1 (Nat.le_refl _) (by decide) rfl
    have H0 : Hid (QRel5 cs 2 w (.slice (some ⟨w.heap.size, 0, none⟩) 1 1) (.int .i64 0) (w.alloc (.cells #[.int .u8 16] 5))) := ⟨0, [16], rfl, Nat.zero_le _, rfl, own0, (Below.refl _ _).alloc (Nat.le_refl _) _⟩
    clear own0
    go_enter Tryz.func370, Tryz.ntmps370
    go_wp2
    go_loopw [5, 15] (fun out i wr => QRel5 cs 2 w out i wr) (fun _ i _ => cs.length - (intOf i).toNat)
    case atStart => exact H0.out
    case round =>
      obtain ⟨k, l, rfl, hk, hl, hown, hbw⟩ := hrel
      by_cases hlt : k < cs.length
      · have hck := (hbw.cell (by exact hg)).trans (HC.out k hlt)
        have hq := isChar_lt (HCH.out cs[k] (List.getElem_mem hlt))
        have hi' : (k : Int) < (cs.length : Int) := by omega
        generalize cs[k] = q at *
        have hll : l.length ≤ 131073 := by omega
        have HL := Lib.hid hl
        clear hl H0
        have e1 : ((q / 256 : Nat) : Int) = (q : Int) / 256 := by omega
        have hB1 := byte_of (q / 256) (by omega)
        rw [e1] at hB1
        have HB1 := Lib.hid hB1
        clear hB1 e1
        have e1 : ((q % 256 : Nat) : Int) = (q : Int) % 256 := by omega
        have hB2 := byte_of (q % 256) (by omega)
        rw [e1] at hB2
        have HB2 := Lib.hid hB2
        clear hB2 e1
        go_wp2
        refine wp_loop_rounds 3 ?_
        rw [rounds_succ]
        go_wp2_with (first
          | (at_builtin; refine wpList_append_own _ rfl _ _ 149 rfl w.heap.size 5 i0 (.int .u8 0) 1 1 Tryz.underlying149 hi hz0 hz1 hz2 rfl (by decide) _ _ _ rfl (hown.alloc _) ⟨wr.heap.size, 0, none⟩ 1 1 [.int .u8 ((q : Int) / 256)] rfl rfl ?_ ?_ ?_ ?_ ?_ ?_)
          | go_in)
        · intro j u hj
          match j, hj with
          | 0, hj => simp at hj; subst hj; exact new_one _ _ _ _ rfl
        · intro u hu; simp at hu; subst hu; rfl
        · unfold maxLen; omega
        · omega
        · exact (hbw.alloc hbw.size _).size
        · intro v2 w2 hown' hgrow _
          have hb2 := (hbw.alloc hbw.size _).grown hgrow (hbw.alloc hbw.size _).size (fun j hj => (hown.lt j hj).1)
          rw [HB1.out, ← bytesV_snoc] at hown'
          have hown2 := hown'
          clear hown' hgrow
          go_wp2
          rw [rounds_succ]
          have hll2 : (l ++ [UInt8.ofNat (q / 256)]).length ≤ 131074 := by simp; omega
          have hown2' : w2.ownsRow w.heap.size 5 1 v2 (l ++ [UInt8.ofNat (q / 256)]).length (bytesV (l ++ [UInt8.ofNat (q / 256)])) := by rw [List.length_append]; exact hown2
          go_wp2_with (first
            | (at_builtin; refine wpList_append_own _ rfl _ _ 149 rfl w.heap.size 5 i0 (.int .u8 0) 1 1 Tryz.underlying149 hi hz0 hz1 hz2 rfl (by decide) _ _ _ rfl (hown2'.alloc _) ⟨w2.heap.size, 0, none⟩ 1 1 [.int .u8 ((q : Int) % 256)] rfl rfl ?_ ?_ ?_ ?_ ?_ ?_)
            | go_in)
          · intro j u hj
            match j, hj with
            | 0, hj => simp at hj; subst hj; exact new_one _ _ _ _ rfl
          · intro u hu; simp at hu; subst hu; rfl
          · unfold maxLen; omega
          · omega
          · exact (hb2.alloc hb2.size _).size
          · intro v3 w3 hown' hgrow _
            have hb3 := (hb2.alloc hb2.size _).grown hgrow (hb2.alloc hb2.size _).size (fun j hj => (hown2'.lt j hj).1)
            rw [HB2.out, ← bytesV_snoc] at hown'
            have hown3 := hown'
            clear hown' hgrow
            go_wp2
            rw [rounds_succ]
            go_wp2
            go_roundw
            case rel => exact ⟨k + 1, l ++ [UInt8.ofNat (q / 256)] ++ [UInt8.ofNat (q % 256)], by first | rfl | go_num, by omega, by have := HL.out; rw [List.length_append, List.length_append]; simp only [List.length_cons, List.length_nil]; omega, by rw [List.length_append, List.length_append]; exact hown3, hb3⟩
            case measure => simp [intOf]; omega
      · have hk' : k = cs.length := by omega
        have HL := Lib.hid hl
        have hconv := conv_own l _ hown
        subst hk'
        clear hl
        go_wp2
        go_ret
        exact ⟨_, rfl, by rw [← len_data]; simpa using HL.out, hbw⟩
end Go.Proofs.YtmgbbnnjbgemdaaGreatDoor

/- Law 45, directories: the program's characters of a text. -/
namespace Go.Proofs.YtmgbbnnjbgemdaaGreatDoor
open Go.RowKit
set_option maxRecDepth 1000000
set_option maxHeartbeats 1600000
/-- The tables of unicode/utf8. -/
def Tabs (w : World) : Prop := Lib.Utf8Tabs 1 2 w ∧ 1 < w.heap.size ∧ 2 < w.heap.size
theorem Tabs.step {w w' : World} (h : Tabs w) (hb : Below w.heap.size w w') : Tabs w' := by
  obtain ⟨⟨h1, h2⟩, h3, h4⟩ := h
  exact ⟨⟨fun c hc => (hb.cell (by exact h3)).trans (h1 c hc), fun i hi => ⟨(hb.cell (by exact h4)).trans (h2 i hi).1, (hb.cell (by exact h4)).trans (h2 i hi).2⟩⟩, Nat.lt_of_lt_of_le h3 hb.size, Nat.lt_of_lt_of_le h4 hb.size⟩
theorem decodeN_enc (n c b0 b1 b2 b3 : Nat) (hc : isChar c = true) (h : (c < 128 ∧ b0 = c) ∨ (128 ≤ c ∧ c < 2048 ∧ 2 ≤ n ∧ b0 = 192 + c / 64 ∧ b1 = 128 + c % 64) ∨ (2048 ≤ c ∧ 3 ≤ n ∧ b0 = 224 + c / 4096 ∧ b1 = 128 + c / 64 % 64 ∧ b2 = 128 + c % 64)) :
    Lib.decodeN n b0 b1 b2 b3 = (c, if c < 128 then 1 else if c < 2048 then 2 else 3) := by
  have hr := isChar_cases c
  have hcr : 32 ≤ c ∧ c ≤ 65533 ∧ (c < 55296 ∨ 57343 < c) := by
    rcases hr with ⟨h1, h2⟩ | ⟨h1, h2⟩ | ⟨h1, h2, h3⟩ | ⟨h1, h2, h3⟩ | ⟨h1, h2, h3⟩
    · rw [hc] at h2; cases h2
    · rw [hc] at h2; cases h2
    · omega
    · rw [hc] at h3; cases h3
    · omega
  clear hr hc
  rcases h with ⟨h1, rfl⟩ | ⟨h1, h2, h3, rfl, rfl⟩ | ⟨h1, h2, rfl, rfl, rfl⟩
  · unfold Lib.decodeN; rw [if_pos h1, if_pos h1]
  · unfold Lib.decodeN
    rw [if_neg (by omega), if_pos ⟨by omega, by omega, by omega⟩, if_pos (by omega), if_neg (by omega), if_pos h2]
    congr 1; omega
  · have e : (224 + c / 4096) % 16 * 4096 + (128 + c / 64 % 64) % 64 * 64 + (128 + c % 64) % 64 = c := by omega
    unfold Lib.decodeN
    rw [if_neg (by omega), if_neg (by omega), if_pos ⟨by omega, ⟨by omega, by omega⟩, by omega, by omega⟩, e, if_pos ⟨by omega, by omega⟩, if_neg (by omega), if_neg (by omega)]
theorem get_bang (s : ByteArray) (i : Nat) : (s.get! i).toNat = (s.data.toList.getD i 0).toNat := by
  congr 1
  show s.data[i]! = _
  rw [List.getD]
  by_cases h : i < s.data.size
  · rw [getElem!_pos s.data i h, List.getElem?_eq_getElem (by simpa using h)]; simp
  · rw [getElem!_neg s.data i h, List.getElem?_eq_none (by simpa using h)]; rfl
theorem decodeGo_enc (s : ByteArray) (c : Nat) (rest : List UInt8) (hs : s.data.toList = enc c ++ rest) (hc : isChar c = true) : Lib.decodeGo s = (c, (enc c).length) := by
  have hp := enc_pos c
  have hsz : s.size = (enc c).length + rest.length := by rw [← len_data, hs, List.length_append]
  have hlt := isChar_lt hc
  unfold Lib.decodeGo
  rw [if_neg (by omega), Lib.decode_at, get_bang, get_bang, get_bang, get_bang, hs, enc_length]
  refine decodeN_enc _ c _ _ _ _ hc ?_
  by_cases h1 : c < 128
  · left
    rw [enc1 h1]
    exact ⟨h1, by simp; omega⟩
  · by_cases h2 : c < 2048
    · right; left
      rw [enc2 (by omega) h2] at hsz ⊢
      refine ⟨by omega, h2, by simp at hsz; omega, by simp; omega, by simp; omega⟩
    · right; right
      rw [enc3 (by omega)] at hsz ⊢
      refine ⟨by omega, by simp at hsz; omega, by simp; omega, by simp; omega, by simp; omega⟩
end Go.Proofs.YtmgbbnnjbgemdaaGreatDoor

/- Law 45, directories: a rune into a builder (this program's text of the library's checks). -/
namespace Go.Proofs.YtmgbbnnjbgemdaaGreatDoor
open Go.RowKit
set_option maxRecDepth 1000000
set_option maxHeartbeats 1600000
theorem info_builder : (Tryz.prog.info? 319).map (·.size) = some 2 := by kernel_rfl
theorem lies_builder : liesAt Tryz.prog Tryz.prog.depth 319 (2 / Tryz.prog.cellsOf 319) 0 319 1 = true := by kernel_rfl
theorem p_cc_used (b : Nat) (w : World) (h0 : w.cell? ⟨b, 0, none⟩ = some (.pointer (some ⟨b, 0, none⟩))) :
    Calls Tryz.prog 368 #[.pointer (some ⟨b, 0, none⟩)] w fun e w' => e = .returned (.tuple #[]) ∧ w' = w := by
  obtain ⟨j, hj, _⟩ := Option.map_eq_some_iff.1 info_builder
  go_enter Tryz.func368, Tryz.ntmps368
  go_wp2
  rw [Lib.run_neq_ptr_same w _ Tryz.underlying317 hj]
  go_wp2
  go_end0
  exact ⟨rfl, rfl⟩
theorem p_cc_fresh (b : Nat) (w : World) (h0 : w.cell? ⟨b, 0, none⟩ = some (.pointer none)) (hsh : w.shape? b = some (319, 2)) (hfz : w.frozen? ⟨b, 0, none⟩ = false) :
    Calls Tryz.prog 368 #[.pointer (some ⟨b, 0, none⟩)] w fun e w' => e = .returned (.tuple #[]) ∧ w' = w.setCell ⟨b, 0, none⟩ (.pointer (some ⟨b, 0, none⟩)) := by
  obtain ⟨j, hj, hjs⟩ := Option.map_eq_some_iff.1 info_builder
  go_enter Tryz.func368, Tryz.ntmps368
  go_wp2
  rw [Lib.run_to_unsafe w ⟨b, 0, none⟩ Tryz.underlying317 Tryz.underlying547 hj (by rw [hjs]; decide) hsh (Nat.zero_lt_succ 1)]
  simp only [Result.andThen]
  rw [Oper.upon_value]
  go_wp2
  rw [run_callFunc_extern Tryz.func477 (by kernel_rfl) (by kernel_rfl) (by kernel_rfl) (e := Extern.AbiNoEscape.same) (by kernel_rfl)]
  rw [Lib.run_noEscape]
  simp only [Result.andThen]
  rw [Oper.upon_value]
  go_wp2
  rw [Lib.run_from_unsafe w ⟨b, 0, none⟩ Tryz.underlying547 Tryz.underlying317 hj hsh lies_builder]
  simp only [Result.andThen]
  rw [Oper.upon_value]
  go_wp2
  go_end0
  exact ⟨rfl, rfl⟩
/-- A builder of the call's own, and what it holds. -/
def IsB (B b : Nat) (bs : List Value) (w : World) : Prop := Lib.IsBuilderF 319 5 B b bs w
theorem p_cc (B b : Nat) (bs : List Value) (w : World) (h : IsB B b bs w) :
    Calls Tryz.prog 368 #[.pointer (some ⟨b, 0, none⟩)] w fun e w' => e = .returned (.tuple #[]) ∧ Lib.BuilderAtF 319 5 B b (.pointer (some ⟨b, 0, none⟩)) bs w' ∧ Below B w w' := by
  rcases h with h | h
  · refine (p_cc_fresh b w h.cell0 h.shape h.frozen0).mono ?_
    rintro e w' ⟨rfl, rfl⟩
    exact ⟨rfl, h.used _, (Below.refl B w).setCell (p := ⟨b, 0, none⟩) h.1 _⟩
  · refine (p_cc_used b w h.cell0).mono ?_
    rintro e w' ⟨rfl, rfl⟩
    exact ⟨rfl, h, Below.refl B _⟩
theorem p_writerune (B b : Nat) (bs : List Value) (c : Nat) (w : World) (hc : c < 65536) (h : IsB B b bs w) (hlen : bs.length ≤ 1000000) (hBw : B ≤ w.heap.size) :
    Calls Tryz.prog 211 #[.pointer (some ⟨b, 0, none⟩), .int .i32 c] w fun e w' => (∃ v, e = .returned v) ∧ IsB B b (bs ++ Lib.runeCells c) w' ∧ Below B w w' := by
  have hk4 := Lib.runeCells_le (c : Int)
  go_enter Tryz.func211, Tryz.ntmps211
  go_wp2_with fail
  refine (p_cc B b bs _ h).mono ?_
  rintro e w1 ⟨rfl, ⟨hB, v, hbk, hown, hne⟩, hb1⟩
  obtain ⟨ao, cap, rfl⟩ : ∃ ao cap, v = .slice ao bs.length cap := by
    rcases hown.2 with ⟨hv, h0⟩ | ⟨g, cap, cur, fz, hv, _⟩
    · exact ⟨none, 0, by rw [hv, h0]⟩
    · exact ⟨_, _, hv⟩
  have c1 : w1.cell? ⟨b, 1, none⟩ = some (.slice ao bs.length cap) := by rw [Lib.cell_of_heap hbk]; rfl
  have hB1 : B ≤ w1.heap.size := Nat.le_trans hBw hb1.size
  go_wp2_with fail
  refine (Tryz.utf8_AppendRune_row B _ bs.length bs c (by omega) (by omega) _ hown (by omega) hB1).mono ?_
  rintro e w2 ⟨v', rfl, hown', o, hgrow⟩
  have hlt : b < w1.heap.size := (Array.getElem?_eq_some_iff.1 hbk).1
  have hb2 : w2.heap[b]? = some (.cells #[.pointer (some ⟨b, 0, none⟩), .slice ao bs.length cap] 319 (0, 0)) := by
    have h1 := (Below.heap_alloc w1 o b hlt).trans hbk
    exact (hgrow.block b (Array.getElem?_eq_some_iff.1 h1).1 (fun e => hne e.symm)).trans h1
  have d1 : w2.cell? ⟨b, 1, none⟩ = some (.slice ao bs.length cap) := by rw [Lib.cell_of_heap hb2]; rfl
  have f1 : w2.frozen? ⟨b, 1, none⟩ = false := Lib.frozen_of_heap hb2 1
  obtain ⟨g, cap', rfl⟩ : ∃ g cap', v' = .slice g (bs.length + (Lib.runeCells c).length) cap' := by
    rcases hown'.2 with ⟨hv, h0⟩ | ⟨g, cap', cur, fz, hv, _⟩
    · exact ⟨none, 0, by rw [hv, h0]⟩
    · exact ⟨_, cap', hv⟩
  have hput : IsB B b (bs ++ Lib.runeCells c) (w2.setCell ⟨b, 1, none⟩ (.slice g (bs.length + (Lib.runeCells c).length) cap')) := .inr (Lib.BuilderAtF.put (T := 319) (e := 5) hB hb2 (bs' := bs ++ Lib.runeCells c) (by simpa using hown') (by decide))
  have hbel := ((hb1.alloc hB1 o).grown hgrow (by show B ≤ (w1.heap.push _).size; simp; omega) (fun k hk => (hown.lt k hk).1)).setCell (p := ⟨b, 1, none⟩) hB (.slice g (bs.length + (Lib.runeCells c).length) cap')
  clear hown' hgrow hown hbk hb2
  go_wp2
  go_ret2
  exact ⟨⟨_, rfl⟩, hput, hbel⟩
theorem runeCells_enc (c : Nat) (h : isChar c = true) : Lib.runeCells c = Lib.byteCells (enc c) := by
  have hr := isChar_cases c
  have hlt := isChar_lt h
  have hlt2 : c ≤ 65533 := by
    rcases hr with ⟨h1, h3⟩ | ⟨h1, h3⟩ | ⟨h1, h3, h4⟩ | ⟨h1, h3, h4⟩ | ⟨h1, h3, h4⟩
    · omega
    · rw [h] at h3; cases h3
    · omega
    · omega
    · omega
  unfold Lib.runeCells Lib.byteCells
  by_cases h1 : c < 128
  · rw [Lib.encodeRuneZ_one (by omega) (by omega), enc1 h1]; simp; omega
  · by_cases h2 : c < 2048
    · rw [Lib.encodeRuneZ_two (by omega) (by omega), enc2 (by omega) h2]; simp; omega
    · rw [Lib.encodeRuneZ_three (by
        rcases hr with ⟨h1, h3⟩ | ⟨h1, h3⟩ | ⟨h1, h3, h4⟩ | ⟨h1, h3, h4⟩ | ⟨h1, h3, h4⟩
        · rw [h] at h3; cases h3
        · rw [h] at h3; cases h3
        · omega
        · rw [h] at h4; cases h4
        · omega), enc3 (by omega)]; simp; omega
end Go.Proofs.YtmgbbnnjbgemdaaGreatDoor

/- Law 45, directories: the program's text of compressed Unicode. -/
namespace Go.Proofs.YtmgbbnnjbgemdaaGreatDoor
open Go.RowKit
set_option maxRecDepth 1000000
set_option maxHeartbeats 1600000
theorem own_belowF {w w' : World} {base : Nat} {e : TypeId} {size : Nat} {v : Value} {n : Nat} {xs : List Value} (h : w.ownsRowF base e size v n xs) (hb : Below w.heap.size w w') : w'.ownsRowF base e size v n xs := by
  obtain ⟨h1, h2⟩ := h
  refine ⟨h1, ?_⟩
  rcases h2 with h2 | ⟨g, cap, cur, fz, e1, e2, e3, e4⟩
  · exact .inl h2
  · refine .inr ⟨g, cap, cur, fz, e1, e2, ?_, e4⟩
    rw [hb.block g (Array.getElem?_eq_some_iff.1 e3).1, e3]
theorem IsB.step {B b : Nat} {bs : List Value} {w w' : World} (h : IsB B b bs w) (hb : Below w.heap.size w w') : IsB B b bs w' := by
  rcases h with ⟨h1, v, h2, h3, h4⟩ | ⟨h1, v, h2, h3, h4⟩
  · exact .inl ⟨h1, v, (hb.block b (Array.getElem?_eq_some_iff.1 h2).1).trans h2, own_belowF h3 hb, h4⟩
  · exact .inr ⟨h1, v, (hb.block b (Array.getElem?_eq_some_iff.1 h2).1).trans h2, own_belowF h3 hb, h4⟩
theorem IsB.new (w : World) : IsB w.heap.size w.heap.size [] (w.alloc (.cells #[.pointer none, .slice none 0 0] 319)) :=
  .inl ⟨Nat.le_refl _, .slice none 0 0, heap_alloc_new w _, ⟨by simp, .inl ⟨rfl, rfl⟩⟩, by simp [Value.ownBlock]⟩
theorem conv_bytes (w : World) (s : ByteArray) : ∃ (cap : Nat) (W : World), Sem.run Tryz.prog (convert 9 149 (.string s)) w = .ok (.slice (some ⟨w.heap.size, 0, none⟩) s.size cap) W ∧ Below w.heap.size w W ∧ ∀ j, (h : j < s.size) → W.cell? ⟨w.heap.size, j, none⟩ = some (.int .u8 (s[j].toNat : Nat)) := by
  refine ⟨_, _, run_bytes_of_string w _ _ 5 s Tryz.underlying9 Tryz.underlying149 Tryz.underlying5, (below_drew (Below.refl _ _)).alloc (Nat.le_refl _) _, ?_⟩
  intro j h
  have := World.cell?_alloc_mark w.drew (bytesRow s (grownCap w s.size 0 5)) 5 ((bytesRow s (grownCap w s.size 0 5)).size, (bytesRow s (grownCap w s.size 0 5)).size + 1) j
  refine Eq.trans this ?_
  rw [bytesRow_at s _ j h]
  rfl
theorem i32_or_nat (a b : Nat) (ha : a < 65536) (hb : b < 65536) : bits .or .i32 (a : Int) (b : Int) = ((a ||| b : Nat) : Int) := by
  have hx : a ||| b < 2 ^ 16 := Nat.or_lt_two_pow (by omega) (by omega)
  show IntKind.i32.wrap ((BitVec.ofInt 32 (a : Int) ||| BitVec.ofInt 32 (b : Int)).toNat : Int) = _
  have e : ∀ x : Nat, x < 65536 → (BitVec.ofInt 32 (x : Int)).toNat = x := fun x h => by
    rw [BitVec.ofInt_natCast, BitVec.toNat_ofNat]; exact Nat.mod_eq_of_lt (by omega)
  rw [BitVec.toNat_or, e a ha, e b hb]
  generalize a ||| b = z at *
  simp [IntKind.wrap, IntKind.bits, IntKind.signed]
  omega
theorem or32_zero (n : Nat) (h : n < 256) : bits .or .i32 0 (n : Int) = (n : Int) := by
  have := i32_or_nat 0 n (by omega) (by omega)
  simpa using this
theorem or32_two (a b : Nat) (ha : a < 256) (hb : b < 256) : bits .or .i32 ((a : Int) * 256) (b : Int) = (a : Int) * 256 + b := by
  have := i32_or_nat (a * 2 ^ 8) b (by omega) (by omega)
  rw [nat_join 8 (a * 2 ^ 8) b (Nat.mul_mod_left _ _) hb] at this
  rw [show (a : Int) * 256 = ((a * 2 ^ 8 : Nat) : Int) by omega, this]
  omega
def P1Rel (s : ByteArray) (w : World) (i : Value) (wr : World) : Prop := ∃ (j : Nat) (a : List Nat), i = .int .i64 j ∧ j ≤ s.size ∧ j = 1 + a.length ∧ (∀ c ∈ a, isChar c = true) ∧ chars1 (s.data.toList.drop 1) = (chars1 (s.data.toList.drop j)).map (a ++ ·) ∧ IsB w.heap.size w.heap.size (Lib.byteCells (encs a)) wr ∧ Below w.heap.size w wr
theorem p_expand8 (s : ByteArray) (w : World) (h0 : 0 < s.size) (h8 : s[0].toNat = 8) (hz : s.size ≤ 65536) :
    Calls Tryz.prog 106 #[.string s] w fun e w' => ∃ (t : ByteArray) (er : Int), e = .returned (.tuple #[.string t, .int .i64 er]) ∧ XOut (chars1 (s.data.toList.drop 1)) t er ∧ Below w.heap.size w w' := by
  have hi0 : (0 : Int) < s.size := by omega
  have hs0 : (s.size : Int) ≤ 65536 := by omega
  have hne := nonempty_str h0
  have hb0 : Below w.heap.size w (w.alloc (.cells #[.pointer none, .slice none 0 0] 319)) := (Below.refl _ _).alloc (Nat.le_refl _) _
  have H0 : Hid (P1Rel s w (.int .i64 1) (w.alloc (.cells #[.pointer none, .slice none 0 0] 319))) := ⟨1, [], rfl, by omega, rfl, by simp, by simp, IsB.new w, hb0⟩
  clear hb0
  go_enter Tryz.func106, Tryz.ntmps106
  go_wp2
  go_loopw [6] (fun i wr => P1Rel s w i wr) (fun i _ => s.size - (intOf i).toNat)
  case atStart => exact H0.out
  case round =>
    obtain ⟨j, a, rfl, hk, hal, hca, hch, hB, hbw⟩ := hrel
    have HAL := Lib.hid hal
    clear hal H0
    by_cases hlt : j < s.size
    · have hb : s[j].toNat < 256 := UInt8.toNat_lt _
      rw [drop_get s j hlt] at hch
      have hi1 : (j : Int) + 1 ≤ s.size := by omega
      have hi2 : (j : Int) < s.size := by omega
      have HC := Lib.hid (fun W : World => p_uchar s[j].toNat W)
      obtain ⟨cap, W, hconv, hbW, hcell⟩ := conv_bytes wr (s.extract j (j + 1))
      have hez : (s.extract j (j + 1)).size = 1 := by rw [← len_data, cut_data]; simp; omega
      have hc0 := hcell 0 (by omega)
      have hg0 : ((s.extract j (j + 1))[0]'(by omega)).toNat = s[j].toNat := by
        obtain ⟨_, e⟩ := get_data (s.extract j (j + 1)) 0 (by omega) [s[j]] (by rw [cut_data, drop_get s j hlt]; simp)
        rw [e]; rfl
      rw [hg0] at hc0
      rw [hez] at hconv
      have hO := or32_zero s[j].toNat hb
      have hB' := hB.step hbW
      have hbw' := hbw.trans (hbW.mono hbw.size)
      clear hcell hg0 hez hbW hB hbw
      cases hic : isChar s[j].toNat with
      | false =>
        rw [hic] at HC
        have HX := Lib.hid (chars1_bad hch hic)
        clear hch hic
        go_wp2_with fail
        refine wp_loop_rounds 2 ?_
        rw [rounds_succ]
        go_wp2_with fail
        rw [rounds_succ]
        go_wp2_with fail
        refine (HC.out _).mono ?_
        rintro e w2 ⟨rfl, rfl⟩
        go_wp2
        go_ret2
        exact ⟨_, _, rfl, by rw [HX.out]; show (2 : Int) ≠ 0; decide, hbw'⟩
      | true =>
        rw [hic] at HC
        have HX := Lib.hid (chars1_step hch hic)
        have HI := Lib.hid hic
        have hbl : (Lib.byteCells (encs a)).length ≤ 1000000 := by rw [Lib.byteCells_length]; have := (encs_len a).2; have := HAL.out; omega
        have HWR := Lib.hid (fun (W2 : World) (h2 : IsB w.heap.size w.heap.size (Lib.byteCells (encs a)) W2) (hs : w.heap.size ≤ W2.heap.size) => p_writerune w.heap.size w.heap.size _ s[j].toNat W2 (by omega) h2 hbl hs)
        clear hch hic hbl
        go_wp2_with fail
        refine wp_loop_rounds 2 ?_
        rw [rounds_succ]
        go_wp2_with fail
        rw [rounds_succ]
        go_wp2_with fail
        refine (HC.out _).mono ?_
        rintro e w2 ⟨rfl, rfl⟩
        go_wp2_with fail
        refine (HWR.out _ hB' hbw'.size).mono ?_
        rintro e w3 ⟨⟨v, rfl⟩, hB3, hb3⟩
        have hb3' := hbw'.trans hb3
        go_wp2
        go_roundw
        case rel => exact ⟨j + 1, a ++ [s[j].toNat], by first | rfl | go_num, by omega, by have := HAL.out; rw [List.length_append]; simp only [List.length_cons, List.length_nil]; omega, by intro c hc; rcases List.mem_append.1 hc with hc | hc; exact hca c hc; simp at hc; subst hc; exact HI.out, by rw [HX.out], by rw [encs_snoc, Lib.byteCells_append, ← runeCells_enc _ HI.out]; exact hB3, hb3'⟩
        case measure => simp [intOf]; omega
    · have hk' : j = s.size := by omega
      have HX := Lib.hid (show chars1 (s.data.toList.drop 1) = some a by rw [hch, List.drop_eq_nil_of_le (by rw [len_data]; omega)]; simp [chars1])
      have HS := Lib.hid (Tryz.Builder_String_any_k w.heap.size w.heap.size (encs a) _ hB hbw.size)
      subst hk'
      clear hch
      go_wp2_with fail
      refine HS.out.mono ?_
      rintro e w2 ⟨rfl, _, hb2, _⟩
      go_wp2
      go_ret2
      exact ⟨_, _, rfl, by rw [HX.out]; exact ⟨rfl, rfl⟩, hbw.trans hb2⟩
end Go.Proofs.YtmgbbnnjbgemdaaGreatDoor

/- Law 45, directories: the program's text of compressed Unicode (2). -/
namespace Go.Proofs.YtmgbbnnjbgemdaaGreatDoor
open Go.RowKit
set_option maxRecDepth 1000000
set_option maxHeartbeats 1600000
def P2Rel (s : ByteArray) (w : World) (i : Value) (wr : World) : Prop := ∃ (j : Nat) (a : List Nat), i = .int .i64 j ∧ j ≤ s.size ∧ j = 1 + 2 * a.length ∧ (∀ c ∈ a, isChar c = true) ∧ chars2 (s.data.toList.drop 1) = (chars2 (s.data.toList.drop j)).map (a ++ ·) ∧ IsB w.heap.size w.heap.size (Lib.byteCells (encs a)) wr ∧ Below w.heap.size w wr
theorem p_expand16 (s : ByteArray) (w : World) (h0 : 0 < s.size) (h8 : s[0].toNat = 16) (hz : s.size ≤ 65536) (m : Nat) (hm : s.size = 2 * m + 1) :
    Calls Tryz.prog 106 #[.string s] w fun e w' => ∃ (t : ByteArray) (er : Int), e = .returned (.tuple #[.string t, .int .i64 er]) ∧ XOut (chars2 (s.data.toList.drop 1)) t er ∧ Below w.heap.size w w' := by
  have hi0 : (0 : Int) < s.size := by omega
  have hs0 : (s.size : Int) ≤ 65536 := by omega
  have hne := nonempty_str h0
  have hmod : (s.size : Int) % 2 = 1 := by omega
  have HM := Lib.hid hm
  clear hm
  have hb0 : Below w.heap.size w (w.alloc (.cells #[.pointer none, .slice none 0 0] 319)) := (Below.refl _ _).alloc (Nat.le_refl _) _
  have H0 : Hid (P2Rel s w (.int .i64 1) (w.alloc (.cells #[.pointer none, .slice none 0 0] 319))) := ⟨1, [], rfl, by omega, rfl, by simp, by simp, IsB.new w, hb0⟩
  clear hb0
  go_enter Tryz.func106, Tryz.ntmps106
  go_wp2
  go_loopw [6] (fun i wr => P2Rel s w i wr) (fun i _ => s.size - (intOf i).toNat)
  case atStart => exact H0.out
  case round =>
    obtain ⟨j, a, rfl, hk, hal, hca, hch, hB, hbw⟩ := hrel
    have HAL := Lib.hid hal
    clear hal H0 hmod
    have hjm : j = s.size ∨ j + 1 < s.size := by have := HM.out; have := HAL.out; omega
    have hall : a.length ≤ 65536 := by have := HAL.out; omega
    by_cases hlt2 : j + 1 < s.size
    · have hlt : j < s.size := by omega
      have hb : s[j].toNat < 256 := UInt8.toNat_lt _
      have hb1 : s[j + 1].toNat < 256 := UInt8.toNat_lt _
      rw [drop_get s j hlt, drop_get s (j + 1) hlt2] at hch
      have hi1 : (j : Int) + 2 ≤ s.size := by omega
      have hi2 : (j : Int) < s.size := by omega
      have HC := Lib.hid (fun W : World => p_uchar (s[j].toNat * 256 + s[j + 1].toNat) W)
      obtain ⟨cap, W, hconv, hbW, hcell⟩ := conv_bytes wr (s.extract j (j + 2))
      have hed : (s.extract j (j + 2)).data.toList = [s[j], s[j + 1]] := by rw [cut_data, drop_get s j hlt, drop_get s (j + 1) hlt2, show j + 2 - j = 2 by omega]; rfl
      have hez : (s.extract j (j + 2)).size = 2 := by rw [← len_data, hed]; rfl
      have hc0 := hcell 0 (by omega)
      have hc1 := hcell 1 (by omega)
      have hg0 : ((s.extract j (j + 2))[0]'(by omega)).toNat = s[j].toNat := by
        obtain ⟨_, e⟩ := get_data (s.extract j (j + 2)) 0 (by omega) _ hed
        rw [e]; rfl
      have hg1 : ((s.extract j (j + 2))[1]'(by omega)).toNat = s[j + 1].toNat := by
        obtain ⟨_, e⟩ := get_data (s.extract j (j + 2)) 1 (by omega) _ hed
        rw [e]; rfl
      rw [hg0] at hc0
      rw [hg1] at hc1
      rw [hez] at hconv
      have hO := or32_zero s[j].toNat hb
      have hO2 := or32_two s[j].toNat s[j + 1].toNat hb hb1
      have e1 : ((s[j].toNat * 256 + s[j + 1].toNat : Nat) : Int) = (s[j].toNat : Int) * 256 + (s[j + 1].toNat : Int) := by omega
      have hq := (show s[j].toNat * 256 + s[j + 1].toNat < 65536 by omega)
      rw [e1] at HC
      have hB' := hB.step hbW
      have hbw' := hbw.trans (hbW.mono hbw.size)
      clear hcell hg0 hg1 hez hed hbW hB hbw
      cases hic : isChar (s[j].toNat * 256 + s[j + 1].toNat) with
      | false =>
        rw [hic] at HC
        have HX := Lib.hid (chars2_bad hch hic)
        clear hch hic
        go_wp2_with fail
        refine wp_loop_rounds 3 ?_
        rw [rounds_succ]
        go_wp2_with fail
        rw [rounds_succ]
        go_wp2_with fail
        rw [rounds_succ]
        go_wp2_with fail
        refine (HC.out _).mono ?_
        rintro e w2 ⟨rfl, rfl⟩
        go_wp2
        go_ret2
        exact ⟨_, _, rfl, by rw [HX.out]; show (2 : Int) ≠ 0; decide, hbw'⟩
      | true =>
        rw [hic] at HC
        have HX := Lib.hid (chars2_step hch hic)
        have HI := Lib.hid hic
        have hbl : (Lib.byteCells (encs a)).length ≤ 1000000 := by rw [Lib.byteCells_length]; have := (encs_len a).2; have := HAL.out; omega
        have HWR := Lib.hid (fun (W2 : World) (h2 : IsB w.heap.size w.heap.size (Lib.byteCells (encs a)) W2) (hs : w.heap.size ≤ W2.heap.size) => p_writerune w.heap.size w.heap.size _ (s[j].toNat * 256 + s[j + 1].toNat) W2 hq h2 hbl hs)
        rw [e1] at HWR
        have HE1 := Lib.hid e1
        clear e1
        clear hch hic hbl
        go_wp2_with fail
        refine wp_loop_rounds 3 ?_
        rw [rounds_succ]
        go_wp2_with fail
        rw [rounds_succ]
        go_wp2_with fail
        rw [rounds_succ]
        go_wp2_with fail
        refine (HC.out _).mono ?_
        rintro e w2 ⟨rfl, rfl⟩
        go_wp2_with fail
        refine (HWR.out _ hB' hbw'.size).mono ?_
        rintro e w3 ⟨⟨v, rfl⟩, hB3, hb3⟩
        have hb3' := hbw'.trans hb3
        go_wp2
        go_roundw
        case rel => exact ⟨j + 2, a ++ [s[j].toNat * 256 + s[j + 1].toNat], by first | rfl | go_num, by omega, by have := HAL.out; rw [List.length_append]; simp only [List.length_cons, List.length_nil]; omega, by intro c hc; rcases List.mem_append.1 hc with hc | hc; exact hca c hc; simp at hc; subst hc; exact HI.out, by rw [HX.out], by rw [encs_snoc, Lib.byteCells_append, ← runeCells_enc _ HI.out, HE1.out]; exact hB3, hb3'⟩
        case measure => simp [intOf]; omega
    · have hk' : j = s.size := by omega
      clear hjm
      have HX := Lib.hid (show chars2 (s.data.toList.drop 1) = some a by rw [hch, List.drop_eq_nil_of_le (by rw [len_data]; omega)]; simp [chars2])
      have HS := Lib.hid (Tryz.Builder_String_any_k w.heap.size w.heap.size (encs a) _ hB hbw.size)
      subst hk'
      clear hch
      go_wp2_with fail
      refine HS.out.mono ?_
      rintro e w2 ⟨rfl, _, hb2, _⟩
      go_wp2
      go_ret2
      exact ⟨_, _, rfl, by rw [HX.out]; exact ⟨rfl, rfl⟩, hbw.trans hb2⟩
theorem p_expand_odd (s : ByteArray) (w : World) (h0 : 0 < s.size) (h8 : s[0].toNat = 16) (hz : s.size ≤ 65536) (m : Nat) (hm : s.size = 2 * m + 2) :
    Calls Tryz.prog 106 #[.string s] w fun e w' => ∃ (t : ByteArray) (er : Int), e = .returned (.tuple #[.string t, .int .i64 er]) ∧ XOut (chars2 (s.data.toList.drop 1)) t er ∧ Below w.heap.size w w' := by
  have hX : chars2 (s.data.toList.drop 1) = none := chars2_odd m _ (by rw [List.length_drop, len_data]; omega)
  rw [hX]
  have hi0 : (0 : Int) < s.size := by omega
  have hs0 : (s.size : Int) ≤ 65536 := by omega
  have hne := nonempty_str h0
  have hmod : (s.size : Int) % 2 = 0 := by omega
  clear hm hX
  go_enter Tryz.func106, Tryz.ntmps106
  go_wp2
  go_ret2
  exact ⟨_, _, rfl, by show (3 : Int) ≠ 0; decide, Below.refl _ _⟩
theorem p_expand_bad (s : ByteArray) (w : World) (h0 : 0 < s.size) (h8 : s[0].toNat ≠ 8) (h16 : s[0].toNat ≠ 16) (hz : s.size ≤ 65536) :
    Calls Tryz.prog 106 #[.string s] w fun e w' => ∃ (t : ByteArray) (er : Int), e = .returned (.tuple #[.string t, .int .i64 er]) ∧ er ≠ 0 ∧ Below w.heap.size w w' := by
  have hi0 : (0 : Int) < s.size := by omega
  have hs0 : (s.size : Int) ≤ 65536 := by omega
  have hne := nonempty_str h0
  have hb : s[0].toNat < 256 := UInt8.toNat_lt _
  have e1 : ((s[0].toNat : Int) != 8) = true := by rw [bne_iff_ne]; omega
  have e2 : ((s[0].toNat : Int) != 16) = true := by rw [bne_iff_ne]; omega
  clear h8 h16
  go_enter Tryz.func106, Tryz.ntmps106
  go_wp2
  go_ret2
  exact ⟨_, _, rfl, by decide, Below.refl _ _⟩
theorem p_expand (s : ByteArray) (w : World) (hz : s.size ≤ 65536) :
    Calls Tryz.prog 106 #[.string s] w fun e w' => ∃ (t : ByteArray) (er : Int), e = .returned (.tuple #[.string t, .int .i64 er]) ∧ XOut (chars s.data.toList) t er ∧ Below w.heap.size w w' := by
  by_cases h0 : 0 < s.size
  · have hd := drop_get s 0 h0
    rw [List.drop_zero] at hd
    by_cases h8 : s[0].toNat = 8
    · have e : s[0] = 8 := UInt8.toNat.inj h8
      rw [hd, e, chars_8]
      exact p_expand8 s w h0 h8 hz
    · by_cases h16 : s[0].toNat = 16
      · have e : s[0] = 16 := UInt8.toNat.inj h16
        rw [hd, e, chars_16]
        rcases Nat.mod_two_eq_zero_or_one s.size with hm | hm
        · exact p_expand_odd s w h0 h16 hz ((s.size - 2) / 2) (by omega)
        · exact p_expand16 s w h0 h16 hz ((s.size - 1) / 2) (by omega)
      · rw [hd, chars_other _ _ h8 h16]
        exact (p_expand_bad s w h0 h8 h16 hz).mono fun e w' ⟨t, er, h1, h2, h3⟩ => ⟨t, er, h1, h2, h3⟩
  · have hs : s = ⟨#[]⟩ := str_eq (by rw [show s.data.toList = [] from List.length_eq_zero_iff.1 (by rw [len_data]; omega)])
    subst hs
    go_enter Tryz.func106, Tryz.ntmps106
    go_wp2
    go_ret2
    exact ⟨_, _, rfl, ⟨rfl, rfl⟩, Below.refl _ _⟩
end Go.Proofs.YtmgbbnnjbgemdaaGreatDoor

/- Law 45, directories: the program's characters of a text (2). -/
namespace Go.Proofs.YtmgbbnnjbgemdaaGreatDoor
open Go.RowKit
set_option maxRecDepth 1000000
set_option maxHeartbeats 1600000
theorem p_decode (s : ByteArray) (c : Nat) (rest : List UInt8) (w : World) (hT : Tabs w) (hs : s.data.toList = enc c ++ rest) (hc : isChar c = true) :
    Calls Tryz.prog 110 #[.string s] w fun e w' => e = .returned (.tuple #[.int .i32 c, .int .i64 (enc c).length]) ∧ Below w.heap.size w w' := by
  have := Tryz.utf8_DecodeRuneInString s w hT.1
  rw [decodeGo_enc s c rest hs hc] at this
  exact this
theorem p_chars (s : ByteArray) (cs : List Nat) (w : World) (hT : Tabs w) (hs : s.data.toList = encs cs) (hc : ∀ c ∈ cs, isChar c = true) (hz : s.size ≤ 65536) :
    Calls Tryz.prog 47 #[.string s] w fun e w' => ∃ v, e = .returned (.tuple #[v, .int .i64 0]) ∧ w'.ownsRow w.heap.size 3 1 v cs.length (intsV cs) ∧ Below w.heap.size w w' := by
  obtain ⟨i0, hi, hz0, hz1, hz2⟩ := info_parts info_int
  have hcl : cs.length ≤ 65536 := by have := (encs_len cs).1; rw [← hs, len_data] at this; omega
  have hs0 : (s.size : Int) ≤ 65536 := by omega
  have HS := Lib.hid hs
  have HT := Lib.hid hT
  clear hs hT
  go_enter Tryz.func47, Tryz.ntmps47
  go_wp2_with (first
    | (at_make; refine wpList_make_own _ rfl _ _ 22 rfl w.heap.size 3 i0 (.int .i64 0) 1 Tryz.underlying22 hi hz0 hz1 .i64 .i64 _ s.size rfl rfl rfl (by rw [hz2]; omega) (by unfold maxLen; omega) (Nat.le_refl _) ?_; intro w0 hown0 hgrow0)
    | go_in)
  have H0 : Hid (CRel cs w (.string s) (.slice (some ⟨w.heap.size, 0, none⟩) 0 s.size) w0) := ⟨s, [], cs, rfl, rfl, HS.out, hown0, (Below.refl _ _).grown hgrow0 (Nat.le_refl _) (fun j hj => by cases hj)⟩
  clear hown0 hgrow0
  go_loopw [0, 4] (fun t out wr => CRel cs w t out wr) (fun t _ _ => strSize t)
  case atStart => exact H0.out
  case round =>
    obtain ⟨t, a, b, rfl, hab, ht, hown, hbw⟩ := hrel
    clear H0
    cases b with
    | nil =>
      have ht0 : t.size = 0 := by rw [← len_data, ht]; rfl
      have hal : a = cs := by rw [hab, List.append_nil]
      subst hal
      go_wp2
      go_ret2
      exact ⟨_, rfl, hown, hbw⟩
    | cons c b =>
      have hcc : isChar c = true := hc c (by rw [hab]; simp)
      have htl : t.size = (enc c).length + (encs b).length := by rw [← len_data, ht, encs_cons, List.length_append]
      have hp := enc_pos c
      have hp3 := enc_le c
      have hclt := isChar_lt hcc
      have htz : t.size ≤ 65536 := by
        have e : (encs cs).length = (encs a).length + t.size := by rw [hab, encs_append, List.length_append, ← ht, len_data]
        rw [← HS.out, len_data] at e
        omega
      have HF := Lib.hid (fun (W : World) (hW : Tabs W) => p_decode t c (encs b) W hW (by rw [ht, encs_cons]) hcc)
      have HC := Lib.hid (fun W : World => p_char c W)
      rw [hcc] at HC
      have hal : a.length + 1 ≤ cs.length := by rw [hab]; simp
      have hd : (t.extract (enc c).length t.size).data.toList = encs b := by rw [cut_data, ht, encs_cons, List.drop_left, List.take_of_length_le (by omega)]
      have hL : ((enc c).length : Int) ≤ t.size := by omega
      have hL0 : (enc c).length ≠ 0 := by omega
      have hm : (t.extract (enc c).length t.size).size < t.size := by rw [← len_data, hd]; omega
      have ht1 : 0 < t.size := by omega
      have hr : ((c : Int) == 65533) = false ∨ (((c : Int) == 65533) = true ∧ (((enc c).length : Int) == 1) = false) := by
        by_cases h : c = 65533
        · right
          subst h
          exact ⟨rfl, by rw [beq_eq_false_iff_ne, enc_length]; decide⟩
        · left; rw [beq_eq_false_iff_ne]; omega
      have hT1 : Tabs wr := HT.out.step hbw
      clear htl ht
      generalize (enc c).length = L at *
      go_wp2_with fail
      refine (HF.out _ hT1).mono ?_
      rintro e w1 ⟨rfl, hb1⟩
      have hb1' := hbw.trans (hb1.mono hbw.size)
      have hown1 := own_below' hown hb1
      clear HF
      go_wp2_with fail
      refine (HC.out _).mono ?_
      rintro e w1' ⟨rfl, rfl⟩
      have hcap : ∀ (x : Int), 0 ≤ x → x < 65536 → IntKind.i64.wrap x = x := fun x h0 h1 => by rw [IntKind.wrap_i64]; omega
      rcases hr with hr | ⟨hr, hr2⟩
      · go_wp2_with (first
          | (at_builtin; refine wpList_append_own _ rfl _ _ 22 rfl w.heap.size 3 i0 (.int .i64 0) 1 8 Tryz.underlying22 hi hz0 hz1 hz2 rfl (by decide) _ _ _ rfl (hown1.alloc _) ⟨w1'.heap.size, 0, none⟩ 1 1 [.int .i64 c] rfl rfl ?_ ?_ ?_ ?_ ?_ ?_)
          | go_in)
        · intro j u hj
          match j, hj with
          | 0, hj => simp at hj; subst hj; exact new_one _ _ _ _ rfl
        · intro u hu; simp at hu; subst hu; rfl
        · unfold maxLen; omega
        · omega
        · exact (hb1'.alloc hb1'.size _).size
        · intro v' w2 hown' hgrow _
          have hb2 := (hb1'.alloc hb1'.size _).grown hgrow (hb1'.alloc hb1'.size _).size (fun j hj => (hown1.lt j hj).1)
          go_wp2
          go_roundw
          case rel => exact ⟨_, a ++ [c], b, rfl, by rw [hab]; simp, hd, by rw [intsV_snoc, List.length_append]; exact hown', hb2⟩
          case measure => exact hm
      · go_wp2_with (first
          | (at_builtin; refine wpList_append_own _ rfl _ _ 22 rfl w.heap.size 3 i0 (.int .i64 0) 1 8 Tryz.underlying22 hi hz0 hz1 hz2 rfl (by decide) _ _ _ rfl (hown1.alloc _) ⟨w1'.heap.size, 0, none⟩ 1 1 [.int .i64 c] rfl rfl ?_ ?_ ?_ ?_ ?_ ?_)
          | go_in)
        · intro j u hj
          match j, hj with
          | 0, hj => simp at hj; subst hj; exact new_one _ _ _ _ rfl
        · intro u hu; simp at hu; subst hu; rfl
        · unfold maxLen; omega
        · omega
        · exact (hb1'.alloc hb1'.size _).size
        · intro v' w2 hown' hgrow _
          have hb2 := (hb1'.alloc hb1'.size _).grown hgrow (hb1'.alloc hb1'.size _).size (fun j hj => (hown1.lt j hj).1)
          go_wp2
          go_roundw
          case rel => exact ⟨_, a ++ [c], b, rfl, by rw [hab]; simp, hd, by rw [intsV_snoc, List.length_append]; exact hown', hb2⟩
          case measure => exact hm
end Go.Proofs.YtmgbbnnjbgemdaaGreatDoor

/- Law 45, directories: the program's Compress, and its test of a name. -/
namespace Go.Proofs.YtmgbbnnjbgemdaaGreatDoor
open Go.RowKit
set_option maxRecDepth 1000000
set_option maxHeartbeats 1600000
theorem foldl_max_le : ∀ (l : List Int) (a b : Int), l.foldl max a ≤ b ↔ a ≤ b ∧ ∀ x ∈ l, x ≤ b
  | [], a, b => by simp
  | x :: l, a, b => by
    rw [List.foldl_cons, foldl_max_le l]
    constructor
    · rintro ⟨h1, h2⟩
      exact ⟨by omega, fun y hy => by rcases List.mem_cons.1 hy with rfl | hy; omega; exact h2 y hy⟩
    · rintro ⟨h1, h2⟩
      exact ⟨by have := h2 x (by simp); omega, fun y hy => h2 y (by simp [hy])⟩
theorem maxOf_wide (cs : List Nat) (h : cs ≠ []) : (Lib.maxOf (cs.map fun (n : Nat) => (n : Int)) ≤ 255 ↔ wide cs = 1) := by
  unfold Lib.maxOf
  rw [foldl_max_le]
  unfold wide
  constructor
  · rintro ⟨_, h2⟩
    rw [if_neg]
    rw [List.any_eq_true]
    rintro ⟨c, hc, hd⟩
    have := h2 c (List.mem_map.2 ⟨c, hc, rfl⟩)
    simp at hd; omega
  · intro h1
    have h2 : ∀ c ∈ cs, c ≤ 255 := fun c hc => by
      by_cases hle : c ≤ 255
      · exact hle
      · rw [if_pos (List.any_eq_true.2 ⟨c, hc, by simp; omega⟩)] at h1
        omega
    refine ⟨?_, fun x hx => by obtain ⟨c, hc, rfl⟩ := List.mem_map.1 hx; have := h2 c hc; omega⟩
    cases cs with
    | nil => exact absurd rfl h
    | cons c l => have := h2 c (by simp); simp; omega
theorem p_compress (s : ByteArray) (cs : List Nat) (w : World) (hT : Tabs w) (hs : s.data.toList = encs cs) (hc : ∀ c ∈ cs, isChar c = true) (hz : s.size ≤ 65536) :
    Calls Tryz.prog 214 #[.string s] w fun e w' => ∃ t : ByteArray, e = .returned (.tuple #[.string t, .int .i64 0]) ∧ t.size = sqz cs ∧ Below w.heap.size w w' := by
  have HC := Lib.hid (p_chars s cs w hT hs hc hz)
  have hcl : cs.length ≤ 65536 := by have := (encs_len cs).1; rw [← hs, len_data] at this; omega
  have hs0 : (s.size : Int) ≤ 65536 := by omega
  by_cases h0 : cs = []
  · subst h0
    clear hs hT
    go_enter Tryz.func214, Tryz.ntmps214
    go_wp2_with fail
    refine HC.out.mono ?_
    rintro e w1 ⟨v, rfl, hown, hb1⟩
    obtain ⟨a, c, rfl⟩ : ∃ (a : Option Addr) (c : Nat), v = .slice a 0 c := by
      rcases hown.2 with ⟨rfl, h0⟩ | ⟨g, cap, cur, rfl, _⟩
      · exact ⟨none, 0, rfl⟩
      · exact ⟨_, _, rfl⟩
    clear hown
    go_wp2
    go_ret2
    exact ⟨_, rfl, rfl, hb1⟩
  · have hl0 : 0 < cs.length := List.length_pos_iff.2 h0
    have hne : ((cs.length : Int) == 0) = false := by rw [beq_eq_false_iff_ne]; omega
    have HQ1 := Lib.hid (fun (v : Value) (W : World) (h : W.ownsRow w.heap.size 3 1 v cs.length (intsV cs)) => p_comp1 cs _ v W h hc hcl h0)
    have HQ2 := Lib.hid (fun (v : Value) (W : World) (h : W.ownsRow w.heap.size 3 1 v cs.length (intsV cs)) => p_comp2 cs _ v W h hc hcl h0)
    have hsq : sqz cs = 1 + cs.length * wide cs := by unfold sqz; rw [if_neg (by rw [List.isEmpty_iff]; exact h0)]
    have hmx := maxOf_wide cs h0
    have hw := wide_le cs
    have HMX := Lib.hid (fun (g cap : Nat) (W : World) (hcell : ∀ k, (hk : k < cs.length) → W.cell? ⟨g, k, none⟩ = some (.int .i64 (cs[k] : Nat))) => Tryz.slices_Max_int g 0 cs.length cap (cs.map fun (n : Nat) => (n : Int)) W hl0 (by simp) (by omega) (by
      intro j hj
      have hj' : j < cs.length := by simpa using hj
      rw [Nat.zero_add, hcell j hj', List.getD, List.getElem?_map, List.getElem?_eq_getElem hj']; rfl))
    rw [List.take_of_length_le (by simp)] at HMX
    have HSQ := Lib.hid hsq
    have HMW := Lib.hid hmx
    generalize Lib.maxOf (cs.map fun (n : Nat) => (n : Int)) = M at *
    clear hs hT hc hsq hmx h0
    go_enter Tryz.func214, Tryz.ntmps214
    go_wp2_with fail
    refine HC.out.mono ?_
    rintro e w1 ⟨v, rfl, hown, hb1⟩
    have hown' := hown
    rcases own_cases hown with ⟨rfl, h2⟩ | ⟨g, cap, rfl, hg, _, hcell⟩
    · subst h2; exact absurd hl0 (by simp)
    · have HCell := Lib.hid hcell
      have HOwn := Lib.hid hown'
      clear hcell hown' hown
      go_wp2_with fail
      refine (HMX.out g cap _ HCell.out).mono ?_
      rintro e w2 ⟨rfl, rfl⟩
      by_cases h1 : M ≤ 255
      · have hw1 := HMW.out.1 h1
        have HW1 := Lib.hid hw1
        clear hw1
        go_wp2_with fail
        refine (HQ1.out _ _ HOwn.out).mono ?_
        rintro e w3 ⟨t, rfl, ht, hb3⟩
        go_wp2
        go_ret2
        exact ⟨_, rfl, by rw [ht, HSQ.out, HW1.out], hb1.trans (hb3.mono hb1.size)⟩
      · have hw1 : wide cs = 2 := by
          have : ¬ wide cs = 1 := fun e => h1 (HMW.out.2 e)
          omega
        have HW1 := Lib.hid hw1
        clear hw1
        go_wp2_with fail
        refine (HQ2.out _ _ HOwn.out).mono ?_
        rintro e w3 ⟨t, rfl, ht, hb3⟩
        go_wp2
        go_ret2
        exact ⟨_, rfl, by rw [ht, HSQ.out, HW1.out], hb1.trans (hb3.mono hb1.size)⟩
theorem contains_index : ∀ (l : List UInt8) (b : UInt8), decide (0 ≤ Lib.indexByte l b) = l.contains b
  | [], b => rfl
  | x :: l, b => by
    have ih := contains_index l b
    have hge := Lib.indexByte_ge l b
    rw [Lib.indexByte, List.contains_cons, ← ih]
    by_cases h : x = b
    · subst h; simp
    · have h1 : (x == b) = false := by rw [beq_eq_false_iff_ne]; exact h
      have h2 : (b == x) = false := by rw [beq_eq_false_iff_ne]; exact fun e => h e.symm
      rw [h1, h2]
      by_cases h3 : Lib.indexByte l b = -1
      · rw [h3]; rfl
      · have h4 : (Lib.indexByte l b == -1) = false := by rw [beq_eq_false_iff_ne]; exact h3
        rw [h4]
        simp only [Bool.false_eq_true, if_false, Bool.false_or]
        rw [decide_eq_true (show (0 : Int) ≤ Lib.indexByte l b + 1 by omega), decide_eq_true (show (0 : Int) ≤ Lib.indexByte l b by omega)]
theorem p_name14 (s : ByteArray) (cs : List Nat) (w : World) (hT : Tabs w) (hs : s.data.toList = encs cs) (hc : ∀ c ∈ cs, isChar c = true) (hz : s.size ≤ 65536) :
    Calls Tryz.prog 14 #[.string s] w fun e w' => e = .returned (.bool (goodCs cs)) ∧ Below w.heap.size w w' := by
  by_cases hd1 : encs cs = [46]
  · have hg : goodCs cs = false := by unfold goodCs; rw [hd1]; rfl
    rw [hg]
    have hd : s.toList = [46] := by rw [ByteArray.toList_eq, hs, hd1]
    go_enter Tryz.func14, Tryz.ntmps14
    go_wp2
    go_ret
    exact ⟨rfl, Below.refl _ _⟩
  · have hb1 : (s.toList == [46]) = false := by rw [ByteArray.toList_eq, hs, beq_eq_false_iff_ne]; exact hd1
    by_cases hd2 : encs cs = [46, 46]
    · have hg : goodCs cs = false := by unfold goodCs; rw [hd2]; rfl
      rw [hg]
      have hd : s.toList = [46, 46] := by rw [ByteArray.toList_eq, hs, hd2]
      go_enter Tryz.func14, Tryz.ntmps14
      go_wp2
      go_ret
      exact ⟨rfl, Below.refl _ _⟩
    · have hb2 : (s.toList == [46, 46]) = false := by rw [ByteArray.toList_eq, hs, beq_eq_false_iff_ne]; exact hd2
      have HG := Lib.hid (show goodCs cs = (!(s.data.toList).contains 47 && (decide (1 ≤ cs.length) && decide (cs.length ≤ 64))) by
        rw [hs]; unfold goodCs; rw [decide_eq_true hd1, decide_eq_true hd2, Bool.true_and, Bool.true_and])
      have HC := Lib.hid (fun (W : World) (hW : Tabs W) => p_chars s cs W hW hs hc hz)
      have HS := Lib.hid (fun W : World => Tryz.strings_Contains_one s 47 W)
      rw [contains_index] at HS
      generalize s.data.toList.contains 47 = sl at *
      clear hd1 hd2 hs hc
      have HT := Lib.hid hT
      clear hT
      go_enter Tryz.func14, Tryz.ntmps14
      go_wp2_with fail
      refine (HS.out _).mono ?_
      rintro e w0 ⟨rfl, rfl⟩
      cases sl
      · have HX : Hid (goodCs cs = (decide (1 ≤ cs.length) && decide (cs.length ≤ 64))) := by
          show _ = _
          rw [HG.out]; rfl
        go_wp2_with fail
        refine (HC.out _ HT.out).mono ?_
        rintro e w1 ⟨v, rfl, hown, hb1⟩
        have hE : ∃ (a : Option Addr) (c : Nat), v = .slice a cs.length c := by
          rcases hown.2 with ⟨rfl, h0⟩ | ⟨g, cap, cur, rfl, _⟩
          · exact ⟨none, 0, by rw [h0]⟩
          · exact ⟨_, _, rfl⟩
        obtain ⟨a, c, rfl⟩ := hE
        clear hown
        have e2 : decide ((cs.length : Int) ≤ 64) = decide (cs.length ≤ 64) := by rw [Bool.eq_iff_iff]; simp; omega
        by_cases h1 : 1 ≤ cs.length
        · have h1' : (1 : Int) ≤ cs.length := by omega
          go_wp2
          go_ret
          exact ⟨ret_bool' (by rw [HX.out, decide_eq_true h1, Bool.true_and, ← e2]), hb1⟩
        · have h1' : decide ((1 : Int) ≤ cs.length) = false := by simp; omega
          go_wp2
          go_ret
          exact ⟨ret_bool' (by rw [HX.out, decide_eq_false h1, Bool.false_and]), hb1⟩
      · have HX : Hid (goodCs cs = false) := by
          show _ = _
          rw [HG.out]; rfl
        go_wp2
        go_ret
        exact ⟨ret_bool' HX.out.symm, Below.refl _ _⟩
end Go.Proofs.YtmgbbnnjbgemdaaGreatDoor

/- Law 45, directories: the program's test of an entry, its flags, its numbers. -/
namespace Go.Proofs.YtmgbbnnjbgemdaaGreatDoor
open Go.RowKit
set_option maxRecDepth 1000000
set_option maxHeartbeats 1600000
theorem ret_sb {s : ByteArray} {a b : Bool} (h : a = b) : Ending.returned (.tuple #[.string s, .bool a]) = .returned (.tuple #[.string s, .bool b]) := by rw [h]
theorem p_entry (t : ByteArray) (cs : List Nat) (hid dir del par met : Bool) (b p u : Nat) (w : World) (hT : Tabs w) (ht : t.data.toList = encs cs) (hc : ∀ c ∈ cs, isChar c = true) (hz : t.size ≤ 65536) (hq : sqz cs ≤ 255)
    (hb : b < 4294967296) (hp : p < 65536) (hu : u < 4294967296) :
    Calls Tryz.prog 108 #[fidV t hid dir del par met b p u] w fun e w' => (∃ s : ByteArray, e = .returned (.tuple #[.string s, .bool (entryOK cs dir par)])) ∧ Below w.heap.size w w' := by
  have hE := isEmpty_str ht
  have HW := Lib.hid (fun (n : Nat) (hn : n < 4294967296) (W : World) => p_word n W hn)
  have HC := Lib.hid (fun (W : World) (hW : Tabs W) => p_compress t cs W hW ht hc hz)
  clear ht hc
  unfold fidV
  have hpd0 : decide ((p : Int) < 0) = false := by simp
  have hpd1 : decide ((65535 : Int) < (p : Int)) = false := by simp; omega
  have hcell : ∀ k : Nat, ∀ v, (#[Value.string t, .bool hid, .bool dir, .bool del, .bool par, .bool met, .int .i64 b, .int .i64 p, .int .i64 u] : Array Value)[k]? = some v → (w.alloc (.cells #[Value.string t, .bool hid, .bool dir, .bool del, .bool par, .bool met, .int .i64 b, .int .i64 p, .int .i64 u] 54)).cell? ⟨w.heap.size, k, none⟩ = some v := by
    intro k v hv
    rw [World.cell?_alloc_at _ _ _ _ rfl]; exact hv
  have c0 := hcell 0 _ rfl
  have c2 := hcell 2 _ rfl
  have c4 := hcell 4 _ rfl
  have c6 := hcell 6 _ rfl
  have c7 := hcell 7 _ rfl
  have c8 := hcell 8 _ rfl
  have hbel : Below w.heap.size w (w.alloc (.cells #[Value.string t, .bool hid, .bool dir, .bool del, .bool par, .bool met, .int .i64 b, .int .i64 p, .int .i64 u] 54)) := (Below.refl _ _).alloc (Nat.le_refl _) _
  have HT1 := Lib.hid (hT.step hbel)
  clear hcell hT
  go_enter Tryz.func108, Tryz.ntmps108
  go_wp2_with fail
  refine (HW.out b hb _).mono ?_
  rintro e w1 ⟨rfl, rfl⟩
  go_wp2_with fail
  refine (HW.out u hu _).mono ?_
  rintro e w1 ⟨rfl, rfl⟩
  cases par
  · go_wp2_with fail
    refine (HC.out _ HT1.out).mono ?_
    rintro e w2 ⟨s, rfl, hs, hb2⟩
    have c0' := (hb2.cell (by show w.heap.size < (w.heap.push _).size; simp)).trans c0
    cases he : cs.isEmpty
    · have h1 : (sqz cs : Int) ≤ 255 := by omega
      rw [he] at hE
      go_wp2
      go_ret2
      exact ⟨⟨_, ret_sb (by simp [entryOK, he] <;> omega)⟩, hbel.trans (hb2.mono hbel.size)⟩
    · rw [he] at hE
      go_wp2
      go_ret2
      exact ⟨⟨_, ret_sb (by simp [entryOK, he] <;> omega)⟩, hbel.trans (hb2.mono hbel.size)⟩
  · cases dir
    · go_wp2_with fail
      go_quiet (fail)
      go_wp2
      go_ret2
      exact ⟨⟨_, ret_sb (by simp [entryOK])⟩, below_drewN hbel _⟩
    · go_wp2_with fail
      go_quiet (fail)
      go_wp2
      go_ret2
      exact ⟨⟨_, ret_sb (by simp [entryOK])⟩, below_drewN hbel _⟩
theorem p_flags (g : Nat) (w : World) :
    Calls Tryz.prog 107 #[.pointer (some ⟨g, 0, none⟩)] w fun e w' => e = .returned (.slice (some ⟨w.heap.size, 0, none⟩) 5 5) ∧ w' = w.drew.alloc (.cells #[.pointer (some ⟨g, 1, none⟩), .pointer (some ⟨g, 2, none⟩), .pointer (some ⟨g, 3, none⟩), .pointer (some ⟨g, 4, none⟩), .pointer (some ⟨g, 5, none⟩)] 204) := by
  go_enter Tryz.func107, Tryz.ntmps107
  go_wp2_with fail
  go_region
  all_goals
    go_wp2
    go_ret
    exact ⟨rfl, rfl⟩
theorem p_number (g0 : Nat) (s : ByteArray) (i n : Nat) (w : World) (hn : n = 1 ∨ n = 2 ∨ n = 4) (h : i + n ≤ s.size) (hs : s.size ≤ 65536) (hc : w.cell? ⟨g0, 0, none⟩ = some (.string s)) :
    Calls Tryz.prog 103 #[.int .i64 i, .int .i64 n, .pointer (some ⟨g0, 0, none⟩)] w fun e w' => e = .returned (.int .i64 (num s.data.toList i n)) ∧ w' = w := by
  have HR : Hid (∀ W : World, Calls Tryz.prog 104 #[.string s, .int .i64 i, .int .i64 n] W fun e w' => e = .returned (.tuple #[.int .i64 (num s.data.toList i n), .int .i64 0]) ∧ w' = W) := by
    intro W
    rcases hn with rfl | rfl | rfl
    · exact p_rl1 s i W h hs
    · exact p_rl2 s i W h hs
    · exact p_rl4 s i W h hs
  clear hn
  go_enter Tryz.func103, Tryz.ntmps103
  go_wp2_with fail
  refine (HR.out _).mono ?_
  rintro e w1 ⟨rfl, rfl⟩
  go_wp2
  go_ret
  exact ⟨rfl, rfl⟩
end Go.Proofs.YtmgbbnnjbgemdaaGreatDoor

/- Law 45, directories: the program's decoding of an entry. -/
namespace Go.Proofs.YtmgbbnnjbgemdaaGreatDoor
open Go.RowKit
set_option maxRecDepth 1000000
set_option maxHeartbeats 1600000
theorem below_alloc_new' {w : World} (o : Obj) : Below w.heap.size w (w.alloc o) := (Below.refl _ _).alloc (Nat.le_refl _) o
theorem below_drew0' (w : World) : Below w.heap.size w w.drew := below_drew (Below.refl _ _)
theorem i64_and_nat (a b : Nat) (ha : a < 65536) (hb : b < 65536) : bits .and .i64 (a : Int) (b : Int) = ((a &&& b : Nat) : Int) := by
  have hx : a &&& b < 2 ^ 16 := Nat.and_lt_two_pow _ (by omega)
  show IntKind.i64.wrap ((BitVec.ofInt 64 (a : Int) &&& BitVec.ofInt 64 (b : Int)).toNat : Int) = _
  have e : ∀ x : Nat, x < 65536 → (BitVec.ofInt 64 (x : Int)).toNat = x := fun x h => by
    rw [BitVec.ofInt_natCast, BitVec.toNat_ofNat]; exact Nat.mod_eq_of_lt (by omega)
  rw [BitVec.toNat_and, e a ha, e b hb, IntKind.wrap_i64]
  generalize a &&& b = z at *
  omega
theorem and_bits : ∀ c, c < 256 → (((c &&& 1) != 0) = decide (c % 2 = 1)) ∧ (((c &&& 2) != 0) = decide (c / 2 % 2 = 1)) ∧ (((c &&& 4) != 0) = decide (c / 4 % 2 = 1)) ∧ (((c &&& 8) != 0) = decide (c / 8 % 2 = 1)) ∧ (((c &&& 16) != 0) = decide (c / 16 % 2 = 1)) := by decide +kernel
theorem and_flag (c k : Nat) (d : Bool) (hc : c < 256) (hk : k < 256) (h : ((c &&& k) != 0) = d) : (bits .and .i64 (c : Int) (k : Int) != 0) = d := by
  rw [i64_and_nat c k (by omega) (by omega), ← h, Bool.eq_iff_iff]
  simp
/-- The string's block, the result's block, and what lies below them. -/
structure PBlk (w : World) (s : ByteArray) (wx : World) : Prop where
  str : wx.heap[w.heap.size]? = some (.cells #[.string s] 9 (0, 0))
  res : wx.heap[w.heap.size + 1]? = some (.cells fidZ 54 (0, 0))
  bel : Below w.heap.size w wx
theorem PBlk.step {w wx w' : World} {s : ByteArray} (h : PBlk w s wx) (hb : Below wx.heap.size wx w') : PBlk w s w' :=
  ⟨(hb.block _ (Array.getElem?_eq_some_iff.1 h.str).1).trans h.str, (hb.block _ (Array.getElem?_eq_some_iff.1 h.res).1).trans h.res, h.bel.trans (hb.mono h.bel.size)⟩
theorem PBlk.new (w : World) (s : ByteArray) : PBlk w s ((w.alloc (.cells #[.string s] 9)).alloc (.cells fidZ 54)) := by
  have hsz : (w.alloc (.cells #[.string s] 9)).heap.size = w.heap.size + 1 := by show (w.heap.push _).size = _; simp
  refine ⟨(Below.heap_alloc _ _ _ (by rw [hsz]; omega)).trans (heap_alloc_last w _), ?_, ((Below.refl _ _).alloc (Nat.le_refl _) _).alloc (by rw [hsz]; omega) _⟩
  rw [← hsz]; exact heap_alloc_last _ _
theorem PBlk.cell {w wx : World} {s : ByteArray} (h : PBlk w s wx) : wx.cell? ⟨w.heap.size, 0, none⟩ = some (.string s) := by rw [cell_of_row _ _ 0 _ _ (0, 0) h.str]; rfl
theorem PBlk.set {w wx : World} {s : ByteArray} (h : PBlk w s wx) (vs : Array Value) : Below w.heap.size w (wx.setRow (w.heap.size + 1) vs) ∧ (wx.setRow (w.heap.size + 1) vs).heap[w.heap.size + 1]? = some (.cells vs 54 (0, 0)) :=
  ⟨below_setRow h.bel (by omega) vs, setRow_heap wx _ _ vs _ _ h.res⟩
theorem arr9 (old : Array Value) (ho : old.size = 9) (v0 v1 v2 v3 v4 v5 v6 v7 v8 : Value) :
    ((((((((old.setIfInBounds 0 v0).setIfInBounds 1 v1).setIfInBounds 2 v2).setIfInBounds 3 v3).setIfInBounds 4 v4).setIfInBounds 5 v5).setIfInBounds 6 v6).setIfInBounds 7 v7).setIfInBounds 8 v8 = #[v0, v1, v2, v3, v4, v5, v6, v7, v8] := by
  apply Array.toList_inj.1
  simp only [Array.toList_setIfInBounds]
  have hl : old.toList.length = 9 := by simpa using ho
  generalize old.toList = l at hl
  match l, hl with
  | [_, _, _, _, _, _, _, _, _], _ => simp only [List.set_cons_zero, List.set_cons_succ]
theorem set9 (w : World) (g : Nat) (t : TypeId) (old : Array Value) (hg : w.heap[g]? = some (.cells old t (0, 0))) (ho : old.size = 9) (v0 v1 v2 v3 v4 v5 v6 v7 v8 : Value) :
    ((((((((w.setCell ⟨g, 0, none⟩ v0).setCell ⟨g, 1, none⟩ v1).setCell ⟨g, 2, none⟩ v2).setCell ⟨g, 3, none⟩ v3).setCell ⟨g, 4, none⟩ v4).setCell ⟨g, 5, none⟩ v5).setCell ⟨g, 6, none⟩ v6).setCell ⟨g, 7, none⟩ v7).setCell ⟨g, 8, none⟩ v8 = w.setRow g #[v0, v1, v2, v3, v4, v5, v6, v7, v8] := by
  rw [setCell_eq_setRow w g 0 old t (0, 0) v0 hg]
  rw [setCell_eq_setRow _ g 1 _ t (0, 0) v1 (setRow_heap _ _ _ _ _ _ hg), setRow_setRow]
  rw [setCell_eq_setRow _ g 2 _ t (0, 0) v2 (setRow_heap _ _ _ _ _ _ hg), setRow_setRow]
  rw [setCell_eq_setRow _ g 3 _ t (0, 0) v3 (setRow_heap _ _ _ _ _ _ hg), setRow_setRow]
  rw [setCell_eq_setRow _ g 4 _ t (0, 0) v4 (setRow_heap _ _ _ _ _ _ hg), setRow_setRow]
  rw [setCell_eq_setRow _ g 5 _ t (0, 0) v5 (setRow_heap _ _ _ _ _ _ hg), setRow_setRow]
  rw [setCell_eq_setRow _ g 6 _ t (0, 0) v6 (setRow_heap _ _ _ _ _ _ hg), setRow_setRow]
  rw [setCell_eq_setRow _ g 7 _ t (0, 0) v7 (setRow_heap _ _ _ _ _ _ hg), setRow_setRow]
  rw [setCell_eq_setRow _ g 8 _ t (0, 0) v8 (setRow_heap _ _ _ _ _ _ hg), setRow_setRow]
  rw [arr9 old ho]
end Go.Proofs.YtmgbbnnjbgemdaaGreatDoor

/- Law 45, directories: the program's decoding of an entry (2). -/
namespace Go.Proofs.YtmgbbnnjbgemdaaGreatDoor
open Go.RowKit
set_option maxRecDepth 1000000
set_option maxHeartbeats 1600000
/-- .. and a failure gives the zero entry. -/
def DOutZ (o : Option (FidS × Nat)) (v : Value) (n er : Int) : Prop := DOutS o v n er ∧ (o = none → v = .agg fidZ)
/-- The flags that were set so far. -/
def flagsA (t : ByteArray) (d1 d2 d3 d4 d5 : Bool) (b p u k : Nat) : Array Value := fidA t (decide (0 < k) && d1) (decide (1 < k) && d2) (decide (2 < k) && d3) (decide (3 < k) && d4) (decide (4 < k) && d5) b p u
/-- The entry's block, the flags' addresses, while the flags are set. -/
structure LRel (w : World) (s : ByteArray) (g : Nat) (t : ByteArray) (d1 d2 d3 d4 d5 : Bool) (b p u k : Nat) (wx : World) : Prop where
  blk : PBlk w s wx
  fid : wx.heap[g]? = some (.cells (flagsA t d1 d2 d3 d4 d5 b p u k) 54 (0, 0))
  ptrs : wx.heap[g + 1]? = some (.cells #[.pointer (some ⟨g, 1, none⟩), .pointer (some ⟨g, 2, none⟩), .pointer (some ⟨g, 3, none⟩), .pointer (some ⟨g, 4, none⟩), .pointer (some ⟨g, 5, none⟩)] 204 (0, 0))
  gt : w.heap.size + 1 < g
section
variable {w : World} {s : ByteArray} {g : Nat} {t : ByteArray} {d1 d2 d3 d4 d5 : Bool} {b p u k : Nat} {wx : World}
theorem LRel.new {w4 : World} (h : PBlk w s w4) : LRel w s w4.heap.size t d1 d2 d3 d4 d5 b p u 0 ((w4.alloc (.cells #[.string t, .bool false, .bool false, .bool false, .bool false, .bool false, .int .i64 b, .int .i64 p, .int .i64 u] 54)).drew.alloc (.cells #[.pointer (some ⟨w4.heap.size, 1, none⟩), .pointer (some ⟨w4.heap.size, 2, none⟩), .pointer (some ⟨w4.heap.size, 3, none⟩), .pointer (some ⟨w4.heap.size, 4, none⟩), .pointer (some ⟨w4.heap.size, 5, none⟩)] 204)) := by
  have hs : (w4.alloc (.cells #[.string t, .bool false, .bool false, .bool false, .bool false, .bool false, .int .i64 b, .int .i64 p, .int .i64 u] 54)).drew.heap.size = w4.heap.size + 1 := by show (w4.heap.push _).size = _; simp
  refine ⟨((h.step (below_alloc_new' _)).step (below_drew0' _)).step (below_alloc_new' _), ?_, ?_, (Array.getElem?_eq_some_iff.1 h.res).1⟩
  · exact (Below.heap_alloc _ _ _ (by rw [hs]; omega)).trans (heap_alloc_last w4 _)
  · rw [← hs]; exact heap_alloc_last _ _
theorem LRel.cell (h : LRel w s g t d1 d2 d3 d4 d5 b p u k wx) (i : Nat) (v : Value) (hv : (flagsA t d1 d2 d3 d4 d5 b p u k)[i]? = some v) : wx.cell? ⟨g, i, none⟩ = some v := by rw [cell_of_row _ _ i _ _ (0, 0) h.fid]; exact hv
theorem LRel.ptr (h : LRel w s g t d1 d2 d3 d4 d5 b p u k wx) (i : Nat) (v : Value) (hv : (#[Value.pointer (some ⟨g, 1, none⟩), .pointer (some ⟨g, 2, none⟩), .pointer (some ⟨g, 3, none⟩), .pointer (some ⟨g, 4, none⟩), .pointer (some ⟨g, 5, none⟩)] : Array Value)[i]? = some v) : wx.cell? ⟨g + 1, i, none⟩ = some v := by rw [cell_of_row _ _ i _ _ (0, 0) h.ptrs]; exact hv
theorem LRel.free (h : LRel w s g t d1 d2 d3 d4 d5 b p u k wx) (i : Nat) : wx.frozen? ⟨g, i, none⟩ = false := by
  rw [World.frozen?, h.fid]; simp
theorem LRel.put (h : LRel w s g t d1 d2 d3 d4 d5 b p u k wx) (i k' : Nat) (v : Value) (he : (flagsA t d1 d2 d3 d4 d5 b p u k).setIfInBounds i v = flagsA t d1 d2 d3 d4 d5 b p u k') : LRel w s g t d1 d2 d3 d4 d5 b p u k' (wx.drew.setCell ⟨g, i, none⟩ v) := by
  have hf : wx.drew.heap[g]? = some (.cells (flagsA t d1 d2 d3 d4 d5 b p u k) 54 (0, 0)) := h.fid
  rw [setCell_eq_setRow wx.drew g i _ _ (0, 0) v hf, he]
  have hgt := h.gt
  have h1 := h.blk.step (below_drew0' wx)
  refine ⟨⟨heap_setRow_other h1.str (by omega), heap_setRow_other h1.res (by omega), below_setRow h1.bel (by omega) _⟩, setRow_heap _ _ _ _ _ _ hf, heap_setRow_other h.ptrs (by omega), hgt⟩
theorem LRel.set0 (h : LRel w s g t d1 d2 d3 d4 d5 b p u 0 wx) : LRel w s g t d1 d2 d3 d4 d5 b p u 1 (wx.drew.setCell ⟨g, 1, none⟩ (.bool d1)) := h.put 1 1 _ (by simp [flagsA])
theorem LRel.set1 (h : LRel w s g t d1 d2 d3 d4 d5 b p u 1 wx) : LRel w s g t d1 d2 d3 d4 d5 b p u 2 (wx.drew.setCell ⟨g, 2, none⟩ (.bool d2)) := h.put 2 2 _ (by simp [flagsA])
theorem LRel.set2 (h : LRel w s g t d1 d2 d3 d4 d5 b p u 2 wx) : LRel w s g t d1 d2 d3 d4 d5 b p u 3 (wx.drew.setCell ⟨g, 3, none⟩ (.bool d3)) := h.put 3 3 _ (by simp [flagsA])
theorem LRel.set3 (h : LRel w s g t d1 d2 d3 d4 d5 b p u 3 wx) : LRel w s g t d1 d2 d3 d4 d5 b p u 4 (wx.drew.setCell ⟨g, 4, none⟩ (.bool d4)) := h.put 4 4 _ (by simp [flagsA])
theorem LRel.set4 (h : LRel w s g t d1 d2 d3 d4 d5 b p u 4 wx) : LRel w s g t d1 d2 d3 d4 d5 b p u 5 (wx.drew.setCell ⟨g, 5, none⟩ (.bool d5)) := h.put 5 5 _ (by simp [flagsA])
end
theorem p_fdecode (s : ByteArray) (loc : Int) (w : World) (hT : Tabs w) (hz : s.size ≤ 65536) :
    Calls Tryz.prog 45 #[.string s, .int .i64 loc] w fun e w' => ∃ (v : Value) (n er : Int), e = .returned (.tuple #[v, .int .i64 n, .int .i64 er]) ∧ DOutZ (fidAt s.data.toList loc) v n er ∧ Below w.heap.size w w' := by
  have HI := Lib.hid (fun W : World => p_is s 257 loc W hz)
  have HN := Lib.hid (PBlk.new w s)
  have hstr0 := (PBlk.new w s).cell
  have HTb := Lib.hid hT
  clear hT
  cases hok : tagOK s.data.toList 257 loc with
  | false =>
    have HF := Lib.hid (show fidAt s.data.toList loc = none by unfold fidAt; rw [hok]; rfl)
    rw [hok] at HI
    clear hok
    go_enter Tryz.func45, Tryz.ntmps45
    go_wp2_with fail
    refine (HI.out _).mono ?_
    rintro e w1 ⟨rfl, hb1⟩
    have h1 := HN.out.step hb1
    have hstr := h1.cell
    clear HI HN hb1
    go_wp2_with (first
      | (refine wpList_store_row rfl _ _ _ rfl (w.heap.size + 1) _ fidZ (fidA ⟨#[]⟩ false false false false false 0 0 0) rfl rfl h1.res 9 fid_size rfl rfl (fidA_one _ _ _ _ _ _ _ _ _) ?_)
      | go_in)
    have hL := run_fid (h1.set (fidA ⟨#[]⟩ false false false false false 0 0 0)).2 rfl
    go_wp2
    exact bodyPost_ret (results_cell3 Tryz.results45 _ _ _ _ rfl hL) rfl ⟨_, _, _, rfl, ⟨⟨⟨_, rfl, rfl, fidA_one _ _ _ _ _ _ _ _ _⟩, by rw [HF.out]; show (10 : Int) ≠ 0; decide⟩, fun _ => rfl⟩, (h1.set (fidA ⟨#[]⟩ false false false false false 0 0 0)).1⟩
  | true =>
    rw [hok] at HI
    by_cases h38 : 38 ≤ s.size
    · have hU := num_lt s.data.toList 36 2
      have hnb := nb_lt s.data.toList 19
      have hc := nb_lt s.data.toList 18
      have HNum := Lib.hid (fun (i n : Nat) (hn : n = 1 ∨ n = 2 ∨ n = 4) (hi : i + n ≤ s.size) (W : World) (hW : W.cell? ⟨w.heap.size, 0, none⟩ = some (.string s)) => p_number w.heap.size s i n W hn hi hz hW)
      have HFid := Lib.hid (show fidAt s.data.toList loc = if rounded (38 + num s.data.toList 36 2 + nb s.data.toList 19) ≤ s.size then (match chars ((s.data.toList.drop (38 + num s.data.toList 36 2)).take (nb s.data.toList 19)) with | none => none | some cs => if (FidS.entry ⟨cs, num s.data.toList 24 4, num s.data.toList 28 2, num s.data.toList 32 4, nb s.data.toList 18⟩) then some (⟨cs, num s.data.toList 24 4, num s.data.toList 28 2, num s.data.toList 32 4, nb s.data.toList 18⟩, rounded (38 + num s.data.toList 36 2 + nb s.data.toList 19)) else none) else none by
        unfold fidAt; rw [hok, len_data, decide_eq_true h38]; rfl)
      have h24 := num_lt s.data.toList 24 4
      have h28 := num_lt s.data.toList 28 2
      have h32 := num_lt s.data.toList 32 4
      have HN36 := Lib.hid (HNum.out 36 2 (by omega) (by omega))
      have HN24 := Lib.hid (HNum.out 24 4 (by omega) (by omega))
      have HN28 := Lib.hid (HNum.out 28 2 (by omega) (by omega))
      have HN32 := Lib.hid (HNum.out 32 4 (by omega) (by omega))
      have HN19 := Lib.hid (HNum.out 19 1 (by omega) (by omega))
      have HN18 := Lib.hid (HNum.out 18 1 (by omega) (by omega))
      rw [num1] at HN19 HN18
      clear HNum hok
      generalize num s.data.toList 24 4 = b at *
      generalize num s.data.toList 28 2 = p at *
      generalize num s.data.toList 32 4 = u at *
      generalize num s.data.toList 36 2 = use at *
      generalize nb s.data.toList 19 = n at *
      generalize nb s.data.toList 18 = c at *
      have HR := Lib.hid (fun W : World => p_rounded (38 + use + n) W (by omega))
      have hrd : rounded (38 + use + n) < 100000 := by unfold rounded; omega
      have hrd2 : 38 + use + n ≤ rounded (38 + use + n) := by unfold rounded; omega
      have e1 : ((38 + use + n : Nat) : Int) = 38 + (use : Int) + (n : Int) := by omega
      rw [e1] at HR
      clear e1
      generalize rounded (38 + use + n) = rd at *
      go_enter Tryz.func45, Tryz.ntmps45
      go_wp2_with fail
      refine (HI.out _).mono ?_
      rintro e w1 ⟨rfl, hb1⟩
      have h1 := HN.out.step hb1
      have hstr := h1.cell
      clear HI HN hb1
      go_wp2_with fail
      refine (HN36.out _ hstr).mono ?_
      rintro e w2 ⟨rfl, rfl⟩
      go_wp2_with fail
      refine (HN19.out _ hstr).mono ?_
      rintro e w2 ⟨rfl, rfl⟩
      go_wp2_with fail
      go_quiet ((go_at_call 105; exact Calls.quiet_of_same (HR.out _)))
      have h1' : PBlk w s (w2.drewN nq) := h1.step (below_drewN (Below.refl _ _) nq)
      clear h1
      by_cases hle : rd ≤ s.size
      · have hle' : ¬ (s.size : Int) < (rd : Int) := by omega
        have hx1 : (38 : Int) + use + n ≤ s.size := by omega
        have hx2 : (0 : Int) ≤ 38 + (use : Int) := by omega
        have hx3 : (38 : Int) + use ≤ 38 + use + n := by omega
        have hx4 : ((38 : Int) + use).toNat = 38 + use := by omega
        have hx5 : ((38 : Int) + use + n).toNat = 38 + use + n := by omega
        have hcd : (s.extract (38 + use) (38 + use + n)).data.toList = (s.data.toList.drop (38 + use)).take n := by rw [cut_data]; congr 1; omega
        have hcz : (s.extract (38 + use) (38 + use + n)).size = n := by rw [← len_data, hcd]; simp; omega
        have HX := Lib.hid (fun W : World => p_expand (s.extract (38 + use) (38 + use + n)) W (by rw [hcz]; omega))
        rw [hcd] at HX
        rw [if_pos hle] at HFid
        clear hcd hcz
        cases hch : chars ((s.data.toList.drop (38 + use)).take n) with
        | none =>
          rw [hch] at HX HFid
          clear hch
          have HF : Hid (fidAt s.data.toList loc = none) := HFid
          go_wp2_with fail
          refine (HX.out _).mono ?_
          rintro e w3 ⟨t, er, rfl, hx, hb3⟩
          have h1 := h1'.step hb3
          have hne : ((er : Int) != 0) = true := by rw [bne_iff_ne]; exact hx
          clear hx HX
          go_wp2_with (first
            | (refine wpList_store_row rfl _ _ _ rfl (w.heap.size + 1) _ fidZ (fidA ⟨#[]⟩ false false false false false 0 0 0) rfl rfl h1.res 9 fid_size rfl rfl (fidA_one _ _ _ _ _ _ _ _ _) ?_)
            | go_in)
          have hL := run_fid (h1.set (fidA ⟨#[]⟩ false false false false false 0 0 0)).2 rfl
          go_wp2
          exact bodyPost_ret (results_cell3 Tryz.results45 _ _ _ _ rfl hL) rfl ⟨_, _, _, rfl, ⟨⟨⟨_, rfl, rfl, fidA_one _ _ _ _ _ _ _ _ _⟩, by rw [HF.out]; show (10 : Int) ≠ 0; decide⟩, fun _ => rfl⟩, (h1.set (fidA ⟨#[]⟩ false false false false false 0 0 0)).1⟩
        | some cs =>
          rw [hch] at HX HFid
          obtain ⟨hcc, hsq, hcl⟩ := chars_len hch (by rw [List.length_take]; omega)
          have HCC := Lib.hid hcc
          clear hch hcc
          obtain ⟨f, hf⟩ : ∃ f : FidS, f = ⟨cs, b, p, u, c⟩ := ⟨_, rfl⟩
          have HF1 : Hid (fidAt s.data.toList loc = if f.entry then some (f, rd) else none) := by rw [hf]; exact HFid
          obtain ⟨a1, a2, a3, a4, a5⟩ := and_bits c hc
          have q1 := and_flag c 1 f.hidden hc (by omega) (a1.trans (by rw [hf]; rfl))
          have q2 := and_flag c 2 f.directory hc (by omega) (a2.trans (by rw [hf]; rfl))
          have q3 := and_flag c 4 f.deleted hc (by omega) (a3.trans (by rw [hf]; rfl))
          have q4 := and_flag c 8 f.parent hc (by omega) (a4.trans (by rw [hf]; rfl))
          have q5 := and_flag c 16 f.metadata hc (by omega) (a5.trans (by rw [hf]; rfl))
          have HFE := Lib.hid (show f.entry = entryOK cs f.directory f.parent by rw [hf]; rfl)
          have HFV := Lib.hid (show f.cs = cs ∧ f.block = b ∧ f.part = p ∧ f.unique = u by rw [hf]; exact ⟨rfl, rfl, rfl, rfl⟩)
          clear HFid hf a1 a2 a3 a4 a5
          go_wp2_with fail
          refine (HX.out _).mono ?_
          rintro e w3 ⟨t, er, rfl, hx, hb3⟩
          have h3 := h1'.step hb3
          obtain ⟨ht, rfl⟩ : t.data.toList = encs cs ∧ er = 0 := hx
          have htz : t.size ≤ 65536 := by rw [← len_data, ht]; have := (encs_len cs).2; omega
          have HE := Lib.hid (fun (W : World) (hW : Tabs W) => p_entry t cs f.hidden f.directory f.deleted f.parent f.metadata b p u W hW ht HCC.out htz hsq (by omega) (by omega) (by omega))
          unfold fidV at HE
          have HT := Lib.hid ht
          clear ht htz HX hb3 h1'
          generalize hd1 : f.hidden = d1 at *
          generalize hd2 : f.directory = d2 at *
          generalize hd3 : f.deleted = d3 at *
          generalize hd4 : f.parent = d4 at *
          generalize hd5 : f.metadata = d5 at *
          have HD := Lib.hid (And.intro hd1 (And.intro hd2 (And.intro hd3 (And.intro hd4 hd5))))
          clear hd1 hd2 hd3 hd4 hd5
          have HQ1 := Lib.hid q1
          have HQ2 := Lib.hid q2
          have HQ3 := Lib.hid q3
          have HQ4 := Lib.hid q4
          have HQ5 := Lib.hid q5
          clear q1 q2 q3 q4 q5
          have hstr3 := h3.cell
          go_wp2_with fail
          refine (HN24.out _ hstr3).mono ?_
          rintro e w4 ⟨rfl, rfl⟩
          go_wp2_with fail
          refine (HN28.out _ hstr3).mono ?_
          rintro e w4 ⟨rfl, rfl⟩
          go_wp2_with fail
          refine (HN32.out _ hstr3).mono ?_
          rintro e w4 ⟨rfl, rfl⟩
          go_wp2_with fail
          refine (p_flags _ _).mono ?_
          rintro e w5 ⟨rfl, rfl⟩
          have hL0 := Lib.hid (LRel.new (t := t) (d1 := d1) (d2 := d2) (d3 := d3) (d4 := d4) (d5 := d5) (b := b) (p := p) (u := u) h3)
          have hgt : w.heap.size + 1 < w4.heap.size := (Array.getElem?_eq_some_iff.1 h3.res).1
          have hgs : (w4.alloc (.cells #[.string t, .bool false, .bool false, .bool false, .bool false, .bool false, .int .i64 b, .int .i64 p, .int .i64 u] 54)).heap.size = w4.heap.size + 1 := by show (w4.heap.push _).size = _; simp
          generalize hgg : w4.heap.size = g at *
          clear h3 hstr3 hgg
          go_wp2_with fail
          go_loopw [63] (fun i wx => ∃ k : Nat, k ≤ 5 ∧ i = .int .i64 k ∧ LRel w s g t d1 d2 d3 d4 d5 b p u k wx) (fun i _ => 5 - (intOf i).toNat)
          case atStart => exact ⟨0, by omega, rfl, hL0.out⟩
          case round =>
            obtain ⟨k, hk, rfl, hL⟩ := hrel
            have cstr := hL.blk.cell
            clear hL0
            rcases (by omega : k = 0 ∨ k = 1 ∨ k = 2 ∨ k = 3 ∨ k = 4 ∨ k = 5) with rfl | rfl | rfl | rfl | rfl | rfl
            · have cp := hL.ptr 0 (.pointer (some ⟨g, 1, none⟩)) rfl
              have cg := hL.cell 1 _ rfl
              have fg := hL.free 1
              have hq : (bits .and .i64 (c : Int) 1 != 0) = d1 := HQ1.out
              go_wp2_with fail
              go_region_with (first
                | (go_at_call 103; refine (HN18.out _ (by exact cstr)).mono ?_; rintro e w5 ⟨rfl, rfl⟩))
              all_goals
                go_wp2
                go_roundw
                · exact ⟨1, by omega, rfl, by rw [hq]; exact hL.set0⟩
                · simp [intOf]
            · have cp := hL.ptr 1 (.pointer (some ⟨g, 2, none⟩)) rfl
              have cg := hL.cell 2 _ rfl
              have fg := hL.free 2
              have hq : (bits .and .i64 (c : Int) 2 != 0) = d2 := HQ2.out
              go_wp2_with fail
              go_region_with (first
                | (go_at_call 103; refine (HN18.out _ (by exact cstr)).mono ?_; rintro e w5 ⟨rfl, rfl⟩))
              all_goals
                go_wp2
                go_roundw
                · exact ⟨2, by omega, rfl, by rw [hq]; exact hL.set1⟩
                · simp [intOf]
            · have cp := hL.ptr 2 (.pointer (some ⟨g, 3, none⟩)) rfl
              have cg := hL.cell 3 _ rfl
              have fg := hL.free 3
              have hq : (bits .and .i64 (c : Int) 4 != 0) = d3 := HQ3.out
              go_wp2_with fail
              go_region_with (first
                | (go_at_call 103; refine (HN18.out _ (by exact cstr)).mono ?_; rintro e w5 ⟨rfl, rfl⟩))
              all_goals
                go_wp2
                go_roundw
                · exact ⟨3, by omega, rfl, by rw [hq]; exact hL.set2⟩
                · simp [intOf]
            · have cp := hL.ptr 3 (.pointer (some ⟨g, 4, none⟩)) rfl
              have cg := hL.cell 4 _ rfl
              have fg := hL.free 4
              have hq : (bits .and .i64 (c : Int) 8 != 0) = d4 := HQ4.out
              go_wp2_with fail
              go_region_with (first
                | (go_at_call 103; refine (HN18.out _ (by exact cstr)).mono ?_; rintro e w5 ⟨rfl, rfl⟩))
              all_goals
                go_wp2
                go_roundw
                · exact ⟨4, by omega, rfl, by rw [hq]; exact hL.set3⟩
                · simp [intOf]
            · have cp := hL.ptr 4 (.pointer (some ⟨g, 5, none⟩)) rfl
              have cg := hL.cell 5 _ rfl
              have fg := hL.free 5
              have hq : (bits .and .i64 (c : Int) 16 != 0) = d5 := HQ5.out
              go_wp2_with fail
              go_region_with (first
                | (go_at_call 103; refine (HN18.out _ (by exact cstr)).mono ?_; rintro e w5 ⟨rfl, rfl⟩))
              all_goals
                go_wp2
                go_roundw
                · exact ⟨5, by omega, rfl, by rw [hq]; exact hL.set4⟩
                · simp [intOf]
            · have hgf := hL.fid
              have hbl := hL.blk
              have hgt' := hL.gt
              have hTb := HTb.out.step hbl.bel
              have h5a : flagsA t d1 d2 d3 d4 d5 b p u 5 = fidA t d1 d2 d3 d4 d5 b p u := by simp [flagsA]
              rw [h5a] at hgf
              clear hL h5a
              go_wp2_with (first
                | (refine wpList_load_row rfl _ _ rfl g _ (fidA t d1 d2 d3 d4 d5 b p u) _ rfl hgf Tryz.underlying54 rfl 9 fid_size rfl ?_)
                | fail)
              refine (HE.out _ hTb).mono ?_
              rintro e w7 ⟨⟨sn, rfl⟩, hb7⟩
              have h1 := hbl.step hb7
              have hgf7 := (hb7.block g (Array.getElem?_eq_some_iff.1 hgf).1).trans hgf
              clear hb7 hgf hbl hTb
              cases hent : entryOK cs d2 d4 with
              | false =>
                have HF : Hid (fidAt s.data.toList loc = none) := by show _ = _; rw [HF1.out, HFE.out, hent]; rfl
                go_wp2_with (first
                  | (refine wpList_store_row rfl _ _ _ rfl (w.heap.size + 1) _ fidZ (fidA ⟨#[]⟩ false false false false false 0 0 0) rfl rfl h1.res 9 fid_size rfl rfl (fidA_one _ _ _ _ _ _ _ _ _) ?_)
                  | go_in)
                have hL := run_fid (h1.set (fidA ⟨#[]⟩ false false false false false 0 0 0)).2 rfl
                go_wp2
                exact bodyPost_ret (results_cell3 Tryz.results45 _ _ _ _ rfl hL) rfl ⟨_, _, _, rfl, ⟨⟨⟨_, rfl, rfl, fidA_one _ _ _ _ _ _ _ _ _⟩, by rw [HF.out]; show (10 : Int) ≠ 0; decide⟩, fun _ => rfl⟩, (h1.set (fidA ⟨#[]⟩ false false false false false 0 0 0)).1⟩
              | true =>
                have HF : Hid (fidAt s.data.toList loc = some (f, rd)) := by show _ = _; rw [HF1.out, HFE.out, hent]; rfl
                have cell : ∀ (k : Nat) (v : Value), (fidA t d1 d2 d3 d4 d5 b p u)[k]? = some v → w7.cell? ⟨g, k, none⟩ = some v := fun k v hv => by rw [cell_of_row _ _ k _ _ (0, 0) hgf7]; exact hv
                have celr : ∀ (k : Nat) (v : Value), fidZ[k]? = some v → w7.cell? ⟨w.heap.size + 1, k, none⟩ = some v := fun k v hv => by rw [cell_of_row _ _ k _ _ (0, 0) h1.res]; exact hv
                have c0 := cell 0 _ rfl
                have c1 := cell 1 _ rfl
                have c2 := cell 2 _ rfl
                have c3 := cell 3 _ rfl
                have c4 := cell 4 _ rfl
                have c5 := cell 5 _ rfl
                have c6 := cell 6 _ rfl
                have c7 := cell 7 _ rfl
                have c8 := cell 8 _ rfl
                have r0 := celr 0 _ rfl
                have r1 := celr 1 _ rfl
                have r2 := celr 2 _ rfl
                have r3 := celr 3 _ rfl
                have r4 := celr 4 _ rfl
                have r5 := celr 5 _ rfl
                have r6 := celr 6 _ rfl
                have r7 := celr 7 _ rfl
                have r8 := celr 8 _ rfl
                have fr : ∀ k, w7.frozen? ⟨w.heap.size + 1, k, none⟩ = false := fun k => by rw [World.frozen?, h1.res]; simp
                clear cell celr
                have hfin := h1.set (fidA t d1 d2 d3 d4 d5 b p u)
                have hset := Lib.hid (set9 w7 (w.heap.size + 1) _ fidZ h1.res rfl (.string t) (.bool d1) (.bool d2) (.bool d3) (.bool d4) (.bool d5) (.int .i64 b) (.int .i64 p) (.int .i64 u))
                have HL9 := Lib.hid (run_fid (w := (w7.setRow (w.heap.size + 1) (fidA t d1 d2 d3 d4 d5 b p u)).drew) hfin.2 rfl)
                have HBF := Lib.hid (below_drew hfin.1)
                clear hfin h1 hgf7
                go_wp2_with fail
                go_region_with (first
                  | (go_at_call 105; refine (HR.out _).mono ?_; rintro e w8 ⟨rfl, rfl⟩))
                all_goals
                  go_wp2
                  rw [hset.out]
                  refine bodyPost_ret (results_cell3 Tryz.results45 _ _ _ _ rfl HL9.out) rfl ⟨_, _, _, rfl, ⟨⟨⟨_, rfl, rfl, fidA_one _ _ _ _ _ _ _ _ _⟩, ?_⟩, fun h => by rw [HF.out] at h; cases h⟩, HBF.out⟩
                  rw [HF.out]
                  obtain ⟨e1, e2, e3, e4⟩ := HFV.out
                  obtain ⟨k1, k2, k3, k4, k5⟩ := HD.out
                  exact ⟨⟨t, by rw [k1, k2, k3, k4, k5, e2, e3, e4]; rfl, by rw [HT.out, FidS.name, e1]⟩, rfl, rfl⟩
      · have hle' : (s.size : Int) < (rd : Int) := by omega
        rw [if_neg hle] at HFid
        have HF := HFid
        have h1 := h1'
        clear hle
        go_wp2_with (first
          | (refine wpList_store_row rfl _ _ _ rfl (w.heap.size + 1) _ fidZ (fidA ⟨#[]⟩ false false false false false 0 0 0) rfl rfl h1.res 9 fid_size rfl rfl (fidA_one _ _ _ _ _ _ _ _ _) ?_)
          | go_in)
        have hL := run_fid (h1.set (fidA ⟨#[]⟩ false false false false false 0 0 0)).2 rfl
        go_wp2
        exact bodyPost_ret (results_cell3 Tryz.results45 _ _ _ _ rfl hL) rfl ⟨_, _, _, rfl, ⟨⟨⟨_, rfl, rfl, fidA_one _ _ _ _ _ _ _ _ _⟩, by rw [HF.out]; show (10 : Int) ≠ 0; decide⟩, fun _ => rfl⟩, (h1.set (fidA ⟨#[]⟩ false false false false false 0 0 0)).1⟩
    · have HF := Lib.hid (show fidAt s.data.toList loc = none by unfold fidAt; rw [hok, len_data, decide_eq_false h38]; rfl)
      have hlt : (s.size : Int) < 38 := by omega
      clear hok h38
      go_enter Tryz.func45, Tryz.ntmps45
      go_wp2_with fail
      refine (HI.out _).mono ?_
      rintro e w1 ⟨rfl, hb1⟩
      have h1 := HN.out.step hb1
      have hstr := h1.cell
      clear HI HN hb1
      go_wp2_with (first
        | (refine wpList_store_row rfl _ _ _ rfl (w.heap.size + 1) _ fidZ (fidA ⟨#[]⟩ false false false false false 0 0 0) rfl rfl h1.res 9 fid_size rfl rfl (fidA_one _ _ _ _ _ _ _ _ _) ?_)
        | go_in)
      have hL := run_fid (h1.set (fidA ⟨#[]⟩ false false false false false 0 0 0)).2 rfl
      go_wp2
      exact bodyPost_ret (results_cell3 Tryz.results45 _ _ _ _ rfl hL) rfl ⟨_, _, _, rfl, ⟨⟨⟨_, rfl, rfl, fidA_one _ _ _ _ _ _ _ _ _⟩, by rw [HF.out]; show (10 : Int) ≠ 0; decide⟩, fun _ => rfl⟩, (h1.set (fidA ⟨#[]⟩ false false false false false 0 0 0)).1⟩
end Go.Proofs.YtmgbbnnjbgemdaaGreatDoor
