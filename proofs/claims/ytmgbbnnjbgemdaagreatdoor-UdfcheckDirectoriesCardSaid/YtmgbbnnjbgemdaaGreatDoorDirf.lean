/- Law 45, UdfcheckDirectories: the law returns true for every string, slice of ints and int. -/
import Derived.Test.YtmgbbnnjbgemdaaGreatDoorDirg
import Derived.Test.YtmgbbnnjbgemdaaGreatDoorAwake
import Derived.Lib.LaidU8T
/- Law 45, directories: the law's own body. -/
namespace Go.Proofs.YtmgbbnnjbgemdaaGreatDoor
open Go.RowKit
set_option maxRecDepth 1000000
set_option maxHeartbeats 1600000
theorem found_len (d : List UInt8) (bl : List Int) : (found d bl).length ≤ d.length + 1 := by
  have h : ∀ (k at_ : Nat) (seen : List (List UInt8)), (offs d bl k at_ seen).length ≤ k := fun k => by
    induction k with
    | zero => intro at_ seen; simp [offs]
    | succ k ih =>
      intro at_ seen
      rw [offs]
      split
      · split
        · simp
        · split
          · simp
          · rename_i f n _
            rw [List.length_append]
            refine Nat.le_trans (Nat.add_le_add (Nat.le_trans ?_ (Nat.le_refl 1)) (ih _ _)) (by omega)
            split <;> simp
      · simp
  unfold found
  split
  · simp
  · have := h (d.length - 0) 0 []
    unfold offsAll
    omega
theorem law_any (s : ByteArray) (a : Option Addr) (bl : List Int) (cap : Nat) (lba : Int) (w : World) (hT : Tabs w)
    (hbl : ∀ k, (h : k < bl.length) → ∃ b off, a = some ⟨b, off, none⟩ ∧ b < w.heap.size ∧ w.cell? ⟨b, off + k, none⟩ = some (.int .i64 bl[k])) :
    Calls Tryz.prog 3 #[.string s, .slice a bl.length cap, .int .i64 lba] w fun e w' => e = .returned (.bool true) ∧ Below w.heap.size w w' := by
  have HA : Hid (∀ W : World, Calls Tryz.prog 4 #[] W fun e u => e = .returned (.bool true) ∧ Below W.heap.size W u) := fun W => awake_calls W
  by_cases h1 : 6000 < s.size
  · have h1' : (6000 : Int) < s.size := by omega
    clear hbl hT
    go_enter Tryz.func3, Tryz.ntmps3
    go_wp2_with fail
    refine (HA.out _).mono ?_
    rintro e w1 ⟨rfl, hb1⟩
    go_wp2
    go_ret
    exact ⟨rfl, hb1⟩
  · have h1' : decide ((6000 : Int) < s.size) = false := by simp; omega
    by_cases h2 : 6 < bl.length
    · have h2' : (6 : Int) < bl.length := by omega
      clear hbl hT
      go_enter Tryz.func3, Tryz.ntmps3
      go_wp2_with fail
      refine (HA.out _).mono ?_
      rintro e w1 ⟨rfl, hb1⟩
      go_wp2
      go_ret
      exact ⟨rfl, hb1⟩
    · have h2' : decide ((6 : Int) < bl.length) = false := by simp; omega
      have hz : s.size ≤ 6000 := by omega
      have hfl := found_len s.data.toList bl
      rw [len_data] at hfl
      have hfl2 : (found s.data.toList bl).length ≤ 65536 := by omega
      have HP := Lib.hid (fun (W : World) (hb : Below w.heap.size w W) => p_checkdir s a bl cap lba W (hT.step hb) hz (fun k h => by
        obtain ⟨b, off, h3, h4, h5⟩ := hbl k h
        exact ⟨b, off, h3, Nat.lt_of_lt_of_le h4 hb.size, (hb.cell (by exact h4)).trans h5⟩))
      have HR := Lib.hid (fun (W : World) (hb : Below w.heap.size w W) => r_checkdir s a bl cap lba W hz (fun k h => by
        obtain ⟨b, off, h3, h4, h5⟩ := hbl k h
        exact ⟨b, off, h3, Nat.lt_of_lt_of_le h4 hb.size, (hb.cell (by exact h4)).trans h5⟩))
      clear hbl hT h1 h2 hfl
      go_enter Tryz.func3, Tryz.ntmps3
      go_wp2_with fail
      refine (HA.out _).mono ?_
      rintro e w1 ⟨rfl, hb1⟩
      go_wp2_with fail
      refine (HP.out _ hb1).mono ?_
      rintro e w2 ⟨v1, rfl, ho1, hb2⟩
      have hb2' := hb1.trans (hb2.mono hb1.size)
      go_wp2_with fail
      refine (HR.out _ hb2').mono ?_
      rintro e w3 ⟨v2, rfl, ho2, hb3⟩
      have hb3' := hb2'.trans (hb3.mono hb2'.size)
      have ho1' := own_below' ho1 hb3
      have HE := Lib.hid (p_equal _ _ lba _ v1 v2 w3 ho1' ho2 hfl2)
      clear ho1 ho1' ho2 hb2 hb3
      go_wp2_with fail
      refine HE.out.mono ?_
      rintro e w4 ⟨rfl, hb4⟩
      go_wp2
      go_ret
      exact ⟨rfl, hb3'.trans (hb4.mono hb3'.size)⟩
end Go.Proofs.YtmgbbnnjbgemdaaGreatDoor

/- Law 45, directories: the tables of unicode/utf8 out of what the row lays. -/
namespace Go.Proofs.YtmgbbnnjbgemdaaGreatDoor
open Go.RowKit
set_option maxRecDepth 1000000
theorem tabs_of_laid {w : World} {l : List (String × DataW Unit)} (hL : laidMet Tryz.prog l w) (h3 : ("unicode/utf8.first", Lib.firstData) ∈ l) (h4 : ("unicode/utf8.acceptRanges", Lib.acceptData) ∈ l) : Tabs w := by
  have hT : Lib.Utf8Tabs 1 2 w :=
    utf8Tabs_of_readsT (U8Types.of260 (ρ := Tryz.lays197_ren) { Tryz.lays197 with }) ⟨by kernel_rfl, by kernel_rfl, by kernel_rfl, by kernel_rfl, by kernel_rfl, by kernel_rfl, by kernel_rfl⟩ (Lib.laidMet.reads hL h3) (Lib.laidMet.reads hL h4)
  refine ⟨hT, ?_, ?_⟩
  · have h := hT.1 0 (by omega)
    cases hg : w.heap[1]? with
    | none => simp [World.cell?, hg] at h
    | some o => exact (Array.getElem?_eq_some_iff.1 hg).1
  · have h := (hT.2 0 (by omega)).1
    cases hg : w.heap[2]? with
    | none => simp [World.cell?, hg] at h
    | some o => exact (Array.getElem?_eq_some_iff.1 hg).1
end Go.Proofs.YtmgbbnnjbgemdaaGreatDoor
