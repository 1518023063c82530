/- Law 45: walks of overlap, its closure, IndexFunc, ContainsFunc, Overlaps, Few, Contains and of the reference. -/
import Derived.Test.YtdefgejneknmgaaGreatDoorProg
import Derived.WalkKit
namespace Go.Proofs.YtdefgejneknmgaaGreatDoor
open Go.RowKit
def ovB (a0 a1 b0 b1 : Int) : Bool := if b0 < a0 then decide (a0 - b0 < b1) else decide (b0 - a0 < a1)
theorem below2 (w : World) (o o' : Obj) : Below w.heap.size w ((w.alloc o).alloc o') := ((Below.refl _ _).alloc (Nat.le_refl _) o).alloc (by simp) o'
theorem wrap_sub (a b : Int) (h0 : 0 ≤ a - b) (h1 : a - b < 18446744073709551616) : IntKind.u64.wrap (IntKind.u64.wrap a - IntKind.u64.wrap b) = a - b := by
  simp only [IntKind.wrap, IntKind.signed, IntKind.bits]
  simp
  omega
theorem overlap_any (a0 a1 b0 b1 : Int) (w : World) (ha0 : -1099511627776 ≤ a0) (ha0' : a0 ≤ 1099511627776) (hb0 : -1099511627776 ≤ b0) (hb0' : b0 ≤ 1099511627776) (ha1 : 0 < a1) (ha1' : a1 ≤ 1099511627776) (hb1 : 0 < b1) (hb1' : b1 ≤ 1099511627776) :
    Calls Tryz.prog 16 #[.agg #[.int .i64 a0, .int .i64 a1], .agg #[.int .i64 b0, .int .i64 b1]] w fun e w' => e = .returned (.bool (ovB a0 a1 b0 b1)) ∧ Below w.heap.size w w' := by
  go_enter Tryz.func16, Tryz.ntmps16
  go_wp2
  · have h : b0 < a0 := by assumption
    go_ret
    refine ⟨?_, below2 _ _ _⟩
    rw [wrap_sub _ _ (by omega) (by omega), ovB, if_pos h]
    rfl
  · have h : a0 ≤ b0 := by assumption
    go_ret
    refine ⟨?_, below2 _ _ _⟩
    rw [wrap_sub _ _ (by omega) (by omega), ovB, if_neg (by omega)]
    rfl
/-- The closure: s at a pointer, t its argument. -/
def clB (a0 a1 b0 b1 : Int) : Bool := decide (0 < a1) && (decide (0 < b1) && (!(decide (a0 = b0) && decide (a1 = b1)) && ovB a0 a1 b0 b1))
theorem cl_any (p : Nat) (a0 a1 b0 b1 : Int) (w : World) (hp0 : w.cell? ⟨p, 0, none⟩ = some (.int .i64 a0)) (hp1 : w.cell? ⟨p, 1, none⟩ = some (.int .i64 a1)) (hp : p < w.heap.size) (ha0 : -1099511627776 ≤ a0) (ha0' : a0 ≤ 1099511627776) (hb0 : -1099511627776 ≤ b0) (hb0' : b0 ≤ 1099511627776) (ha1' : a1 ≤ 1099511627776) (hb1' : b1 ≤ 1099511627776) :
    Calls Tryz.prog 15 #[.agg #[.int .i64 b0, .int .i64 b1], .pointer (some ⟨p, 0, none⟩)] w fun e w' => e = .returned (.bool (clB a0 a1 b0 b1)) ∧ Below w.heap.size w w' := by
  have q0 : (w.alloc (.cells #[.int .i64 b0, .int .i64 b1] 29)).cell? ⟨p, 0, none⟩ = some (.int .i64 a0) := by rw [World.cell?_alloc_past _ _ _ hp]; exact hp0
  have q1 : (w.alloc (.cells #[.int .i64 b0, .int .i64 b1] 29)).cell? ⟨p, 1, none⟩ = some (.int .i64 a1) := by rw [World.cell?_alloc_past _ _ _ hp]; exact hp1
  have fin : ∀ (b : Bool) (tm : Array Value), b = clB a0 a1 b0 b1 → Ending.returned (Value.bool b) = Ending.returned (Value.bool (clB a0 a1 b0 b1)) := fun b _ h => by rw [h]
  go_enter Tryz.func15, Tryz.ntmps15
  go_wp2_with fail
  all_goals first
    | (go_ret
       refine ⟨?_, (Below.refl _ _).alloc (Nat.le_refl _) _⟩
       refine fin _ #[] ?_
       by_cases h1 : 0 < a1 <;> by_cases h2 : 0 < b1 <;> by_cases h3 : a0 = b0 <;> by_cases h4 : a1 = b1 <;> first | omega | simp [clB, h1, h2, h3, h4])
    | (refine (overlap_any _ _ _ _ _ (by omega) (by omega) (by omega) (by omega) (by omega) (by omega) (by omega) (by omega)).mono ?_
       rintro e w' ⟨rfl, hb⟩
       go_wp2
       go_ret
       refine ⟨?_, ((Below.refl _ _).alloc (Nat.le_refl _) _).trans (hb.mono (by simp))⟩
       refine fin _ #[] ?_
       by_cases h1 : 0 < a1 <;> by_cases h2 : 0 < b1 <;> by_cases h3 : a0 = b0 <;> by_cases h4 : a1 = b1 <;> first | omega | simp [clB, h1, h2, h3, h4])
end Go.Proofs.YtdefgejneknmgaaGreatDoor

namespace Go.Proofs.YtdefgejneknmgaaGreatDoor
open Go.RowKit
def anyB (a0 a1 : Int) (S : Nat → Int × Int) (k : Nat) : Bool := (List.range k).any fun j => clB a0 a1 (S j).1 (S j).2
theorem anyB_succ (a0 a1 : Int) (S : Nat → Int × Int) (k : Nat) : anyB a0 a1 S (k + 1) = (anyB a0 a1 S k || clB a0 a1 (S k).1 (S k).2) := by simp [anyB, List.range_succ]
set_option maxHeartbeats 800000 in
set_option maxRecDepth 1000000 in
theorem ixf_any (p b off len cap : Nat) (a0 a1 : Int) (S : Nat → Int × Int) (w : World) (hlen : len ≤ 60) (hb : b < w.heap.size) (hp : p < w.heap.size)
    (hp0 : w.cell? ⟨p, 0, none⟩ = some (.int .i64 a0)) (hp1 : w.cell? ⟨p, 1, none⟩ = some (.int .i64 a1)) (ha0 : -1099511627776 ≤ a0) (ha0' : a0 ≤ 1099511627776) (ha1' : a1 ≤ 1099511627776)
    (hc0 : ∀ j, j < len → w.cell? ⟨b, off + j * 2, none⟩ = some (.int .i64 (S j).1)) (hc1 : ∀ j, j < len → w.cell? ⟨b, off + j * 2 + 1, none⟩ = some (.int .i64 (S j).2))
    (hS : ∀ j, j < len → -1099511627776 ≤ (S j).1 ∧ (S j).1 ≤ 1099511627776 ∧ (S j).2 ≤ 1099511627776) :
    Calls Tryz.prog 41 #[.slice (some ⟨b, off, none⟩) len cap, .func (.func 15) #[] #[.pointer (some ⟨p, 0, none⟩)]] w fun e w' => ∃ r : Int, e = .returned (.int .i64 r) ∧ decide (0 ≤ r) = anyB a0 a1 S len ∧ Below w.heap.size w w' := by
  go_enter Tryz.func41, Tryz.ntmps41
  go_wp2
  go_loopw [8] (fun i wr => ∃ k : Nat, k ≤ len ∧ i = .int .i64 k ∧ Below w.heap.size w wr ∧ anyB a0 a1 S k = false) (fun i _ => len - (intOf i).toNat)
  case atStart => exact ⟨0, Nat.zero_le _, rfl, Below.refl _ _, rfl⟩
  case round =>
    obtain ⟨k, hk, rfl, hnx, hany⟩ := hrel
    have g0 : k < len → wr.cell? ⟨b, off + k * 2, none⟩ = some (.int .i64 (S k).1) := fun h => (hnx.cell (by exact hb)).trans (hc0 k h)
    have g1 : k < len → wr.cell? ⟨b, off + k * 2 + 1, none⟩ = some (.int .i64 (S k).2) := fun h => (hnx.cell (by exact hb)).trans (hc1 k h)
    clear hc0 hc1
    go_wp2_with fail
    · have hlt : k < len := by assumption
      obtain ⟨s0, s1, s2⟩ := hS k hlt
      refine (cl_any p a0 a1 _ _ wr ((hnx.cell (by exact hp)).trans hp0) ((hnx.cell (by exact hp)).trans hp1) (Nat.lt_of_lt_of_le hp hnx.size) ha0 ha0' s0 s1 ha1' s2).mono ?_
      rintro e w1 ⟨rfl, hb1⟩
      have hn1 : Below w.heap.size w w1 := hnx.trans (hb1.mono hnx.size)
      have hsucc := anyB_succ a0 a1 S k
      rw [hany, Bool.false_or] at hsucc
      clear hb1 hnx g0 g1 hp0 hp1
      generalize hcl : clB a0 a1 (S k).1 (S k).2 = cb at hsucc ⊢
      cases cb
      · go_wp2
        go_roundw
        case rel => exact ⟨k + 1, by omega, by go_num, hn1, hsucc⟩
        case measure => simp [intOf]; omega
      · go_wp2
        go_ret
        refine ⟨k, rfl, ?_, hn1⟩
        have : anyB a0 a1 S len = true := by
          rw [anyB, List.any_eq_true]
          exact ⟨k, List.mem_range.2 hlt, hcl⟩
        rw [this]
        simp
    · have hge : ¬ k < len := by assumption
      have hkl : k = len := by omega
      subst hkl
      go_ret
      exact ⟨-1, rfl, by rw [hany]; rfl, hnx⟩
/-- slices.ContainsFunc. -/
theorem cf_any (p b off len cap : Nat) (a0 a1 : Int) (S : Nat → Int × Int) (w : World) (hlen : len ≤ 60) (hb : b < w.heap.size) (hp : p < w.heap.size)
    (hp0 : w.cell? ⟨p, 0, none⟩ = some (.int .i64 a0)) (hp1 : w.cell? ⟨p, 1, none⟩ = some (.int .i64 a1)) (ha0 : -1099511627776 ≤ a0) (ha0' : a0 ≤ 1099511627776) (ha1' : a1 ≤ 1099511627776)
    (hc0 : ∀ j, j < len → w.cell? ⟨b, off + j * 2, none⟩ = some (.int .i64 (S j).1)) (hc1 : ∀ j, j < len → w.cell? ⟨b, off + j * 2 + 1, none⟩ = some (.int .i64 (S j).2))
    (hS : ∀ j, j < len → -1099511627776 ≤ (S j).1 ∧ (S j).1 ≤ 1099511627776 ∧ (S j).2 ≤ 1099511627776) :
    Calls Tryz.prog 14 #[.slice (some ⟨b, off, none⟩) len cap, .func (.func 15) #[] #[.pointer (some ⟨p, 0, none⟩)]] w fun e w' => e = .returned (.bool (anyB a0 a1 S len)) ∧ Below w.heap.size w w' := by
  go_enter Tryz.func14, Tryz.ntmps14
  go_wp2_with fail
  refine (ixf_any p b off len cap a0 a1 S w hlen hb hp hp0 hp1 ha0 ha0' ha1' hc0 hc1 hS).mono ?_
  rintro e w1 ⟨r, rfl, hr, hb1⟩
  clear hc0 hc1 hp0 hp1
  go_wp2
  go_ret
  refine ⟨?_, hb1⟩
  rw [← hr]
  rfl
end Go.Proofs.YtdefgejneknmgaaGreatDoor

namespace Go.Proofs.YtdefgejneknmgaaGreatDoor
open Go.RowKit
theorem ownsRow_below {w w' : World} {base : Nat} {e : TypeId} {size : Nat} {v : Value} {n : Nat} {xs : List Value} (h : w.ownsRow base e size v n xs) (hb : Below w.heap.size w w') : w'.ownsRow base e size v n xs := by
  obtain ⟨h1, h2⟩ := h
  refine ⟨h1, ?_⟩
  rcases h2 with h2 | ⟨g, cap, cur, e1, e2, e3, e4⟩
  · exact .inl h2
  · refine .inr ⟨g, cap, cur, e1, e2, ?_, e4⟩
    rw [hb.block g (Array.getElem?_eq_some_iff.1 e3).1, e3]
theorem i3 : (Tryz.prog.info? 3).map (fun i => (i.zero, i.size, i.bytes)) = some (some (.int .i64 0), 1, 8) := by kernel_rfl
/-- The indices of spans that meet an earlier one. -/
def OL (S : Nat → Int × Int) (k : Nat) : List Nat := (List.range k).filter fun i => anyB (S i).1 (S i).2 S i
theorem OL_succ (S : Nat → Int × Int) (k : Nat) : OL S (k + 1) = if anyB (S k).1 (S k).2 S k = true then OL S k ++ [k] else OL S k := by
  simp only [OL, List.range_succ, List.filter_append]
  split
  · rename_i h; simp [h]
  · rename_i h; simp [h]
theorem OL_le (S : Nat → Int × Int) (k : Nat) : (OL S k).length ≤ k := Nat.le_trans (List.length_filter_le _ _) (by simp)
abbrev vals (l : List Nat) : List Value := l.map fun i : Nat => Value.int .i64 (i : Int)
set_option maxHeartbeats 1600000 in
set_option maxRecDepth 1000000 in
theorem over_any (b off len cap : Nat) (S : Nat → Int × Int) (w : World) (hlen : len ≤ 60) (hb : b < w.heap.size) (hcap : len ≤ cap)
    (hc0 : ∀ j, j < len → w.cell? ⟨b, off + j * 2, none⟩ = some (.int .i64 (S j).1)) (hc1 : ∀ j, j < len → w.cell? ⟨b, off + j * 2 + 1, none⟩ = some (.int .i64 (S j).2))
    (hS : ∀ j, j < len → -1099511627776 ≤ (S j).1 ∧ (S j).1 ≤ 1099511627776 ∧ (S j).2 ≤ 1099511627776) :
    Calls Tryz.prog 6 #[.slice (some ⟨b, off, none⟩) len cap] w fun e w' => ∃ v, e = .returned v ∧ w'.ownsRow w.heap.size 3 1 v (OL S len).length (vals (OL S len)) ∧ Below w.heap.size w w' := by
  obtain ⟨i0, hi, hz0, hz1, hz2⟩ := info_parts i3
  have hmf : ∀ (fn : Fn) (first cap : Array Value) (w : World), (Instr.makeFunc fn first cap).run Tryz.prog w = .ok (.func fn first cap) w := fun _ _ _ _ => rfl
  go_enter Tryz.func6, Tryz.ntmps6
  go_wp2
  go_loopw [3, 8] (fun v i wr => ∃ k : Nat, k ≤ len ∧ i = .int .i64 k ∧ wr.ownsRow w.heap.size 3 1 v (OL S k).length (vals (OL S k)) ∧ Below w.heap.size w wr) (fun _ i _ => len - (intOf i).toNat)
  case atStart => exact ⟨0, Nat.zero_le _, rfl, World.ownsRow_nil _ _ _ _, Below.refl _ _⟩
  case round =>
    obtain ⟨k, hk, rfl, hown, hnx⟩ := hrel
    have g0 : k < len → wr.cell? ⟨b, off + k * 2, none⟩ = some (.int .i64 (S k).1) := fun h => (hnx.cell (by exact hb)).trans (hc0 k h)
    have g1 : k < len → wr.cell? ⟨b, off + k * 2 + 1, none⟩ = some (.int .i64 (S k).2) := fun h => (hnx.cell (by exact hb)).trans (hc1 k h)
    go_wp2_with fail
    · have hlt : k < len := by assumption
      obtain ⟨s0, s1, s2⟩ := hS k hlt
      have hA : Below w.heap.size w (wr.alloc (.cells #[.int .i64 (S k).1, .int .i64 (S k).2] 29)) := hnx.alloc hnx.size _
      have hq0 : (wr.alloc (.cells #[.int .i64 (S k).1, .int .i64 (S k).2] 29)).cell? ⟨wr.heap.size, 0, none⟩ = some (.int .i64 (S k).1) := by rw [World.cell?_alloc_at _ _ _ _ rfl]; rfl
      have hq1 : (wr.alloc (.cells #[.int .i64 (S k).1, .int .i64 (S k).2] 29)).cell? ⟨wr.heap.size, 1, none⟩ = some (.int .i64 (S k).2) := by rw [World.cell?_alloc_at _ _ _ _ rfl]; rfl
      have hownA := hown.alloc (.cells #[.int .i64 (S k).1, .int .i64 (S k).2] 29)
      refine (cf_any wr.heap.size b off k cap (S k).1 (S k).2 S _ (by omega) (Nat.lt_of_lt_of_le hb hA.size) (by simp) hq0 hq1 s0 s1 s2 (fun j hj => (hA.cell (by exact hb)).trans (hc0 j (by omega))) (fun j hj => (hA.cell (by exact hb)).trans (hc1 j (by omega))) (fun j hj => hS j (by omega))).mono ?_
      rintro e w1 ⟨rfl, hb1⟩
      have hn1 : Below w.heap.size w w1 := hA.trans (hb1.mono hA.size)
      have hown1 := ownsRow_below hownA hb1
      have hsucc := OL_succ S k
      have hle := OL_le S k
      clear hb1 hnx g0 g1 hc0 hc1 hA hq0 hq1 hownA hown
      generalize hcl : anyB (S k).1 (S k).2 S k = cb at hsucc ⊢
      cases cb
      · rw [if_neg (by simp)] at hsucc
        go_wp2
        go_roundw
        case rel => exact ⟨k + 1, by omega, by go_num, by rw [hsucc]; exact hown1, hn1⟩
        case measure => simp [intOf]; omega
      · rw [if_pos rfl] at hsucc
        go_wp2_with (first
          | (at_builtin; refine wpList_append_own _ rfl _ _ 25 rfl w.heap.size 3 i0 (.int .i64 0) 1 8 Tryz.underlying25 hi hz0 hz1 hz2 rfl (by decide) _ _ _ rfl (hown1.alloc _) ⟨w1.heap.size, 0, none⟩ 1 1 [.int .i64 k] rfl rfl ?c1 ?c2 ?c3 ?c4 ?c5 ?_)
          | go_in)
        case c1 =>
          intro j u hj
          match j, hj with
          | 0, hj => simp at hj; subst hj; simp [Addr.add]
        case c2 => intro u hu; simp at hu; subst hu; rfl
        case c3 => unfold maxLen; omega
        case c4 => omega
        case c5 => have := hn1.size; simp; omega
        · intro v' w2 hown' hgrow _
          have hn2 : Below w.heap.size w w2 := (hn1.alloc hn1.size _).grown hgrow (by have := hn1.size; simp; omega) (fun j hj => (hown1.lt j hj).1)
          clear hgrow hn1 hown1
          go_wp2
          go_roundw
          case rel => exact ⟨k + 1, by omega, by go_num, by rw [hsucc]; simpa [vals] using hown', hn2⟩
          case measure => simp [intOf]; omega
    · have hge : ¬ k < len := by assumption
      have hkl : k = len := by omega
      subst hkl
      go_ret
      exact ⟨_, rfl, hown, hnx⟩
end Go.Proofs.YtdefgejneknmgaaGreatDoor

namespace Go.Proofs.YtdefgejneknmgaaGreatDoor
open Go.RowKit
def small (s : Int × Int) : Prop := -1099511627776 ≤ s.1 ∧ s.1 ≤ 1099511627776 ∧ s.2 ≤ 1099511627776
def FewPost (S : Nat → Int × Int) (len : Nat) (w : World) (e : Ending) (w' : World) : Prop := ∃ r : Bool, e = .returned (.bool r) ∧ w' = w ∧ (r = true → len ≤ 60 ∧ ∀ j, j < len → small (S j))
set_option maxHeartbeats 800000 in
set_option maxRecDepth 1000000 in
theorem few_any (b off len cap : Nat) (S : Nat → Int × Int) (w : World) (hlen : len ≤ 9223372036854775807)
    (hc0 : ∀ j, j < len → w.cell? ⟨b, off + j * 2, none⟩ = some (.int .i64 (S j).1)) (hc1 : ∀ j, j < len → w.cell? ⟨b, off + j * 2 + 1, none⟩ = some (.int .i64 (S j).2)) :
    Calls Tryz.prog 5 #[.slice (some ⟨b, off, none⟩) len cap] w (FewPost S len w) := by
  go_enter Tryz.func5, Tryz.ntmps5
  go_wp2
  go_loop [3] (fun i => ∃ k : Nat, k ≤ len ∧ i = .int .i64 k ∧ ∀ j, j < k → small (S j)) (fun i => len - (intOf i).toNat)
  case atStart => exact ⟨0, Nat.zero_le _, rfl, fun j hj => absurd hj (by omega)⟩
  case round =>
    obtain ⟨k, hk, rfl, hsm⟩ := hrel
    have g0 : k < len → w.cell? ⟨b, off + k * 2, none⟩ = some (.int .i64 (S k).1) := fun h => hc0 k h
    have g1 : k < len → w.cell? ⟨b, off + k * 2 + 1, none⟩ = some (.int .i64 (S k).2) := fun h => hc1 k h
    clear hc0 hc1
    go_wp2
    · go_ret
      exact ⟨false, rfl, rfl, fun h => by cases h⟩
    · have h3 : (-1099511627776 ≤ (S k).fst ∧ (S k).fst ≤ 1099511627776) ∧ (S k).snd ≤ 1099511627776 := by assumption
      have hlt : k < len := by assumption
      go_round
      case rel =>
        refine ⟨k + 1, by omega, by go_num, fun j hj => ?_⟩
        by_cases hjk : j = k
        · subst hjk; exact ⟨h3.1.1, h3.1.2, h3.2⟩
        · exact hsm j (by omega)
      case measure => simp [intOf]; omega
    · go_ret
      exact ⟨false, rfl, rfl, fun h => by cases h⟩
    · go_ret
      exact ⟨false, rfl, rfl, fun h => by cases h⟩
    · have hge : ¬ k < len := by assumption
      have hkl : k = len := by omega
      subst hkl
      go_ret
      exact ⟨_, rfl, rfl, fun h => ⟨by have h' : (k : Int) ≤ 60 := of_decide_eq_true h; omega, hsm⟩⟩
theorem few_empty (a : Option Addr) (cap : Nat) (w : World) : Calls Tryz.prog 5 #[.slice a 0 cap] w fun e w' => e = .returned (.bool true) ∧ w' = w := by
  go_enter Tryz.func5, Tryz.ntmps5
  go_wp2
  refine wp_loop_rounds 1 ?_
  rw [rounds_succ]
  go_wp2
  go_ret
  exact ⟨rfl, rfl⟩
theorem over_empty (a : Option Addr) (cap : Nat) (w : World) : Calls Tryz.prog 6 #[.slice a 0 cap] w fun e w' => e = .returned (.slice none 0 0) ∧ w' = w := by
  go_enter Tryz.func6, Tryz.ntmps6
  go_wp2
  refine wp_loop_rounds 1 ?_
  rw [rounds_succ]
  go_wp2
  go_ret
  exact ⟨rfl, rfl⟩
end Go.Proofs.YtdefgejneknmgaaGreatDoor

namespace Go.Proofs.YtdefgejneknmgaaGreatDoor
open Go.RowKit
def memB (x0 x1 : Int) (R : Nat → Int × Int) (k : Nat) : Bool := (List.range k).any fun j => decide (x0 = (R j).1) && decide (x1 = (R j).2)
theorem memB_succ (x0 x1 : Int) (R : Nat → Int × Int) (k : Nat) : memB x0 x1 R (k + 1) = (memB x0 x1 R k || (decide (x0 = (R k).1) && decide (x1 = (R k).2))) := by simp [memB, List.range_succ]
def MemPost (m : Bool) (w : World) (e : Ending) (w' : World) : Prop := ∃ r : Int, e = .returned (.int .i64 r) ∧ decide (0 ≤ r) = m ∧ Below w.heap.size w w'
set_option maxHeartbeats 800000 in
set_option maxRecDepth 1000000 in
theorem ixs_any (b off len cap : Nat) (x0 x1 : Int) (R : Nat → Int × Int) (w : World) (hlen : len ≤ 60) (hb : b < w.heap.size)
    (hc0 : ∀ j, j < len → w.cell? ⟨b, off + j * 2, none⟩ = some (.int .i64 (R j).1)) (hc1 : ∀ j, j < len → w.cell? ⟨b, off + j * 2 + 1, none⟩ = some (.int .i64 (R j).2)) :
    Calls Tryz.prog 18 #[.slice (some ⟨b, off, none⟩) len cap, .agg #[.int .i64 x0, .int .i64 x1]] w (MemPost (memB x0 x1 R len) w) := by
  go_enter Tryz.func18, Tryz.ntmps18
  go_wp2
  go_loopw [8] (fun i wr => ∃ k : Nat, k ≤ len ∧ i = .int .i64 k ∧ Below (w.heap.size + 1) (w.alloc (.cells #[.int .i64 x0, .int .i64 x1] 29)) wr ∧ memB x0 x1 R k = false) (fun i _ => len - (intOf i).toNat)
  case atStart => exact ⟨0, Nat.zero_le _, rfl, Below.refl _ _, rfl⟩
  case round =>
    obtain ⟨k, hk, rfl, hnx, hany⟩ := hrel
    have p0 : wr.cell? ⟨w.heap.size, 0, none⟩ = some (.int .i64 x0) := by
      rw [hnx.cell (by show w.heap.size < w.heap.size + 1; omega), World.cell?_alloc_at _ _ _ _ rfl]; rfl
    have p1 : wr.cell? ⟨w.heap.size, 1, none⟩ = some (.int .i64 x1) := by
      rw [hnx.cell (by show w.heap.size < w.heap.size + 1; omega), World.cell?_alloc_at _ _ _ _ rfl]; rfl
    have g0 : k < len → wr.cell? ⟨b, off + k * 2, none⟩ = some (.int .i64 (R k).1) := fun h => by
      rw [hnx.cell (by show b < w.heap.size + 1; omega), World.cell?_alloc_past _ _ _ hb]; exact hc0 k h
    have g1 : k < len → wr.cell? ⟨b, off + k * 2 + 1, none⟩ = some (.int .i64 (R k).2) := fun h => by
      rw [hnx.cell (by show b < w.heap.size + 1; omega), World.cell?_alloc_past _ _ _ hb]; exact hc1 k h
    clear hc0 hc1
    go_wp2
    · have hlt : k < len := by assumption
      have q0 := g0 hlt
      have q1 := g1 hlt
      have hsucc := memB_succ x0 x1 R k
      rw [hany, Bool.false_or] at hsucc
      clear g0 g1 hb
      have hW : Below w.heap.size w wr.drew := (((Below.refl _ _).alloc (Nat.le_refl _) _).trans (hnx.mono (by omega))).drew
      by_cases hx : x0 = (R k).1
      · by_cases hy : x1 = (R k).2
        · have hall : memB x0 x1 R len = true := by
            rw [memB, List.any_eq_true]
            exact ⟨k, List.mem_range.2 hlt, by simp [hx, hy]⟩
          go_region
          all_goals go_wp2
          all_goals go_ret
          all_goals exact ⟨k, rfl, by rw [hall]; simp, hW⟩
        · have hsucc' : memB x0 x1 R (k + 1) = false := by rw [hsucc]; simp [hy]
          go_region
          all_goals go_wp2
          all_goals go_roundw
          case rel => exact ⟨k + 1, by omega, by go_num, hnx.drew, hsucc'⟩
          case measure => simp [intOf]; omega
      · have hsucc' : memB x0 x1 R (k + 1) = false := by rw [hsucc]; simp [hx]
        go_region
        all_goals go_wp2
        all_goals go_roundw
        case rel => exact ⟨k + 1, by omega, by go_num, hnx.drew, hsucc'⟩
        case measure => simp [intOf]; omega
    · have hge : ¬ k < len := by assumption
      have hkl : k = len := by omega
      subst hkl
      go_ret
      exact ⟨-1, rfl, by rw [hany]; rfl, ((Below.refl _ _).alloc (Nat.le_refl _) _).trans (hnx.mono (by omega))⟩
theorem ixs_empty (a : Option Addr) (cap : Nat) (x0 x1 : Int) (w : World) : Calls Tryz.prog 18 #[.slice a 0 cap, .agg #[.int .i64 x0, .int .i64 x1]] w (MemPost false w) := by
  go_enter Tryz.func18, Tryz.ntmps18
  go_wp2
  refine wp_loop_rounds 1 ?_
  rw [rounds_succ]
  go_wp2
  go_ret
  exact ⟨-1, rfl, rfl, (Below.refl _ _).alloc (Nat.le_refl _) _⟩
theorem cts_of (sl : Value) (x0 x1 : Int) (m : Bool) (w : World) (h : ∀ w1, Below w.heap.size w w1 → Calls Tryz.prog 18 #[sl, .agg #[.int .i64 x0, .int .i64 x1]] w1 (MemPost m w1)) :
    Calls Tryz.prog 10 #[sl, .agg #[.int .i64 x0, .int .i64 x1]] w fun e w' => e = .returned (.bool m) ∧ Below w.heap.size w w' := by
  have hA : Below w.heap.size w (w.alloc (.cells #[.int .i64 x0, .int .i64 x1] 29)) := (Below.refl _ _).alloc (Nat.le_refl _) _
  have h1 := h _ hA
  clear h
  go_enter Tryz.func10, Tryz.ntmps10
  go_wp2_with fail
  refine h1.mono ?_
  rintro e w1 ⟨r, rfl, hr, hb1⟩
  clear h1
  go_wp2
  go_ret
  refine ⟨?_, hA.trans (hb1.mono hA.size)⟩
  rw [← hr]
  rfl
theorem cts_empty (a : Option Addr) (cap : Nat) (x0 x1 : Int) (w : World) : Calls Tryz.prog 10 #[.slice a 0 cap, .agg #[.int .i64 x0, .int .i64 x1]] w fun e w' => e = .returned (.bool false) ∧ Below w.heap.size w w' :=
  cts_of _ _ _ _ _ fun w1 _ => ixs_empty a cap x0 x1 w1
theorem cts_any (b off len cap : Nat) (x0 x1 : Int) (R : Nat → Int × Int) (w : World) (hlen : len ≤ 60) (hb : b < w.heap.size)
    (hc0 : ∀ j, j < len → w.cell? ⟨b, off + j * 2, none⟩ = some (.int .i64 (R j).1)) (hc1 : ∀ j, j < len → w.cell? ⟨b, off + j * 2 + 1, none⟩ = some (.int .i64 (R j).2)) :
    Calls Tryz.prog 10 #[.slice (some ⟨b, off, none⟩) len cap, .agg #[.int .i64 x0, .int .i64 x1]] w fun e w' => e = .returned (.bool (memB x0 x1 R len)) ∧ Below w.heap.size w w' :=
  cts_of _ _ _ _ _ fun w1 h1 => ixs_any b off len cap x0 x1 R w1 hlen (Nat.lt_of_lt_of_le hb h1.size) (fun j hj => (h1.cell (by exact hb)).trans (hc0 j hj)) (fun j hj => (h1.cell (by exact hb)).trans (hc1 j hj))
end Go.Proofs.YtdefgejneknmgaaGreatDoor

namespace Go.Proofs.YtdefgejneknmgaaGreatDoor
open Go.RowKit
theorem cl_iff {a0 a1 b0 b1 : Int} : clB a0 a1 b0 b1 = true ↔ (¬ (a0 = b0 ∧ a1 = b1)) ∧ 1 ≤ a1 ∧ 1 ≤ b1 ∧ a0 < b0 + b1 ∧ b0 < a0 + a1 := by
  simp only [clB, ovB, Bool.and_eq_true, decide_eq_true_eq, Bool.not_eq_true', Bool.and_eq_false_iff, decide_eq_false_iff_not]
  split <;> simp only [decide_eq_true_eq] <;> omega
def InRel (S : Nat → Int × Int) (i : Nat) (w : World) (v kk : Value) (wi : World) : Prop := ∃ k : Nat, k ≤ i ∧ kk = .int .i64 k ∧ wi.ownsRow w.heap.size 3 1 v (OL S i).length (vals (OL S i)) ∧ Below w.heap.size w wi ∧ anyB (S i).1 (S i).2 S k = false
theorem InRel.mk {S : Nat → Int × Int} {i : Nat} {w : World} {v kk : Value} {wi : World} (k : Nat) (h1 : k ≤ i) (h2 : kk = .int .i64 k) (h3 : wi.ownsRow w.heap.size 3 1 v (OL S i).length (vals (OL S i))) (h4 : Below w.heap.size w wi) (h5 : anyB (S i).1 (S i).2 S k = false) : InRel S i w v kk wi := ⟨k, h1, h2, h3, h4, h5⟩
def OutRel (S : Nat → Int × Int) (len : Nat) (w : World) (v ii : Value) (wr : World) : Prop := ∃ k : Nat, k ≤ len ∧ ii = .int .i64 k ∧ wr.ownsRow w.heap.size 3 1 v (OL S k).length (vals (OL S k)) ∧ Below w.heap.size w wr
theorem OutRel.mk {S : Nat → Int × Int} {len : Nat} {w : World} {v ii : Value} {wr : World} (k : Nat) (h1 : k ≤ len) (h2 : ii = .int .i64 k) (h3 : wr.ownsRow w.heap.size 3 1 v (OL S k).length (vals (OL S k))) (h4 : Below w.heap.size w wr) : OutRel S len w v ii wr := ⟨k, h1, h2, h3, h4⟩
/-- What a round of the inner loop may lean on, kept from the walk. -/
structure Held (S : Nat → Int × Int) (i k : Nat) (w wr : World) (v : Value) : Prop where
  own : ∀ o o' : Obj, ((wr.alloc o).alloc o').drew.ownsRow w.heap.size 3 1 v (OL S i).length (vals (OL S i))
  bel : ∀ o o' : Obj, Below w.heap.size w ((wr.alloc o).alloc o').drew
  next : anyB (S i).1 (S i).2 S (k + 1) = clB (S i).1 (S i).2 (S k).1 (S k).2
  hit : clB (S i).1 (S i).2 (S k).1 (S k).2 = true → OL S (i + 1) = OL S i ++ [i]
  le : (OL S i).length ≤ i
theorem Held.of {S : Nat → Int × Int} {i k : Nat} {w wr : World} {v : Value} (hki : k < i) (hown : wr.ownsRow w.heap.size 3 1 v (OL S i).length (vals (OL S i))) (hnx : Below w.heap.size w wr) (hany : anyB (S i).1 (S i).2 S k = false) : Held S i k w wr v where
  own o o' := (hown.alloc o).alloc o'
  bel o o' := ((hnx.alloc hnx.size o).alloc (by have := hnx.size; simp; omega) o').drew
  next := by rw [anyB_succ, hany, Bool.false_or]
  hit h := by
    rw [OL_succ, if_pos]
    rw [anyB, List.any_eq_true]
    exact ⟨k, List.mem_range.2 hki, h⟩
  le := OL_le S i
theorem Held.miss {S : Nat → Int × Int} {i k : Nat} {w wr : World} {v kk : Value} (H : Held S i k w wr v) (hki : k < i) (o o' : Obj) (hk : kk = .int .i64 (k + 1 : Nat)) (h : ¬ ((¬ ((S i).1 = (S k).1 ∧ (S i).2 = (S k).2)) ∧ 1 ≤ (S i).2 ∧ 1 ≤ (S k).2 ∧ (S i).1 < (S k).1 + (S k).2 ∧ (S k).1 < (S i).1 + (S i).2)) :
    InRel S i w v kk ((wr.alloc o).alloc o').drew :=
  .mk (k + 1) (by omega) hk (H.own o o') (H.bel o o') (by rw [H.next, Bool.eq_false_iff]; exact fun e => h (cl_iff.1 e))
theorem Held.append {S : Nat → Int × Int} {i k len : Nat} {w wr w2 : World} {v v' ii : Value} (H : Held S i k w wr v) (hi : i < len) (o o' o'' : Obj) (hk : ii = .int .i64 (i + 1 : Nat)) (h : (¬ ((S i).1 = (S k).1 ∧ (S i).2 = (S k).2)) ∧ 1 ≤ (S i).2 ∧ 1 ≤ (S k).2 ∧ (S i).1 < (S k).1 + (S k).2 ∧ (S k).1 < (S i).1 + (S i).2)
    (hown' : w2.ownsRow w.heap.size 3 1 v' ((OL S i).length + 1) (vals (OL S i) ++ [.int .i64 i])) (hg : (((wr.alloc o).alloc o').alloc o'').drew.grownBy w2 v.ownBlock) : OutRel S len w v' ii w2 := by
  have hb : Below w.heap.size w (((wr.alloc o).alloc o').drew.alloc o'') := (H.bel o o').alloc (H.bel o o').size o''
  refine .mk (i + 1) (by omega) hk ?_ ?_
  · rw [H.hit (cl_iff.2 h)]
    simpa [vals] using hown'
  · exact Below.grown (w := ((wr.alloc o).alloc o').drew.alloc o'') hb hg hb.size (fun j hj => ((H.own o o').lt j hj).1)
theorem new_cell (wr : World) (o o' : Obj) (v : Value) (e : TypeId) : (((wr.alloc o).alloc o').alloc (.cells #[v] e)).drew.cell? ⟨wr.heap.size + 2, 0, none⟩ = some v := by
  show (((wr.alloc o).alloc o').alloc (.cells #[v] e)).cell? ⟨wr.heap.size + 2, 0, none⟩ = some v
  rw [World.cell?_alloc_at _ _ _ _ (by simp)]
  rfl
set_option maxHeartbeats 3200000 in
set_option maxRecDepth 1000000 in
theorem rover_any (b off len cap : Nat) (S : Nat → Int × Int) (w : World) (hlen : len ≤ 60) (hb : b < w.heap.size)
    (hc0 : ∀ j, j < len → w.cell? ⟨b, off + j * 2, none⟩ = some (.int .i64 (S j).1)) (hc1 : ∀ j, j < len → w.cell? ⟨b, off + j * 2 + 1, none⟩ = some (.int .i64 (S j).2))
    (hS : ∀ j, j < len → small (S j)) :
    Calls Tryz.prog 8 #[.slice (some ⟨b, off, none⟩) len cap] w fun e w' => ∃ v, e = .returned v ∧ w'.ownsRow w.heap.size 3 1 v (OL S len).length (vals (OL S len)) ∧ Below w.heap.size w w' := by
  obtain ⟨i0, hi, hz0, hz1, hz2⟩ := info_parts i3
  go_enter Tryz.func8, Tryz.ntmps8
  go_wp2
  go_loopw [3, 4] (fun v i wr => OutRel S len w v i wr) (fun _ i _ => len - (intOf i).toNat)
  case atStart => exact ⟨0, Nat.zero_le _, rfl, World.ownsRow_lit _ _ 0 (Nat.le_refl _) (by decide) rfl, (Below.refl _ _).alloc (Nat.le_refl _) _⟩
  case round =>
    obtain ⟨i, hk, rfl, hown, hnx⟩ := hrel
    go_wp2
    · have hlt : i < len := by assumption
      obtain ⟨s0, s1, s2⟩ := hS i hlt
      go_loopw [3, 5] (fun v kk wi => InRel S i w v kk wi) (fun _ kk _ => i - (intOf kk).toNat)
      case atStart => exact ⟨0, Nat.zero_le _, rfl, hown, hnx, rfl⟩
      case round =>
        clear hown hnx
        obtain ⟨k, hki, rfl, hown, hnx, hany⟩ := hrel
        go_wp2
        · have hki' : k < i := by assumption
          obtain ⟨r0, r1, r2⟩ := hS k (by omega)
          have g0 : wr.cell? ⟨b, off + i * 2, none⟩ = some (.int .i64 (S i).1) := (hnx.cell (by exact hb)).trans (hc0 i hlt)
          have g1 : wr.cell? ⟨b, off + i * 2 + 1, none⟩ = some (.int .i64 (S i).2) := (hnx.cell (by exact hb)).trans (hc1 i hlt)
          have q0 : wr.cell? ⟨b, off + k * 2, none⟩ = some (.int .i64 (S k).1) := (hnx.cell (by exact hb)).trans (hc0 k (by omega))
          have q1 : wr.cell? ⟨b, off + k * 2 + 1, none⟩ = some (.int .i64 (S k).2) := (hnx.cell (by exact hb)).trans (hc1 k (by omega))
          have hbw : b < wr.heap.size := Nat.lt_of_lt_of_le hb hnx.size
          have hbn : ¬ wr.heap.size = b := by omega
          have hbn' : ¬ wr.heap.size + 1 = b := by omega
          have HH := Held.of hki' hown hnx hany
          have hws := hnx.size
          clear hc0 hc1 hS hown hnx hany
          go_region
          all_goals clear g0 g1 q0 q1 hbw hbn hbn'
          · by_cases hx : (S i).1 = (S k).1
            · by_cases hy : (S i).2 = (S k).2
              · first
                  | (exfalso; omega)
                  | (go_wp2
                     go_roundw
                     case rel => exact HH.miss hki' _ _ (by go_num) (by omega)
                     case measure => simp [intOf]; omega)
              · by_cases h4 : 1 ≤ (S i).2
                · by_cases h3 : 1 ≤ (S k).2
                  · by_cases h2 : (S i).1 < (S k).1 + (S k).2
                    · by_cases h1 : (S k).1 < (S i).1 + (S i).2
                      · go_wp2_with (first
                          | (at_builtin; refine wpList_append_own _ rfl _ _ 25 rfl w.heap.size 3 i0 (.int .i64 0) 1 8 Tryz.underlying25 hi hz0 hz1 hz2 rfl (by decide) _ _ _ rfl ((HH.own _ _).alloc _) ⟨wr.heap.size + 2, 0, none⟩ 1 1 [.int .i64 i] rfl rfl ?_ ?_ ?_ ?_ ?_ ?_)
                          | go_in)
                        · intro j u hj
                          match j, hj with
                          | 0, hj => simp at hj; subst hj; exact new_cell _ _ _ _ _
                        · intro u hu; simp at hu; subst hu; rfl
                        · have := HH.le; unfold maxLen; omega
                        · have := HH.le; omega
                        · have hz := (HH.bel (.cells #[] 0) (.cells #[] 0)).size
                          simp at hz ⊢
                          omega
                        · intro v' w2 hown' hgrow _
                          have hout := HH.append (len := len) (ii := .int .i64 ((i : Int) + 1)) hlt _ _ _ (by simp) (by omega) hown' hgrow
                          clear hgrow HH hown'
                          go_wp2
                          go_roundw
                          case rel => exact hout
                          case measure => simp [intOf]; omega
                      · first
                          | (exfalso; omega)
                          | (go_wp2
                             go_roundw
                             case rel => exact HH.miss hki' _ _ (by go_num) (by omega)
                             case measure => simp [intOf]; omega)
                    · first
                        | (exfalso; omega)
                        | (go_wp2
                           go_roundw
                           case rel => exact HH.miss hki' _ _ (by go_num) (by omega)
                           case measure => simp [intOf]; omega)
                  · first
                      | (exfalso; omega)
                      | (go_wp2
                         go_roundw
                         case rel => exact HH.miss hki' _ _ (by go_num) (by omega)
                         case measure => simp [intOf]; omega)
                · first
                    | (exfalso; omega)
                    | (go_wp2
                       go_roundw
                       case rel => exact HH.miss hki' _ _ (by go_num) (by omega)
                       case measure => simp [intOf]; omega)
            · by_cases h4 : 1 ≤ (S i).2
              · by_cases h3 : 1 ≤ (S k).2
                · by_cases h2 : (S i).1 < (S k).1 + (S k).2
                  · by_cases h1 : (S k).1 < (S i).1 + (S i).2
                    · go_wp2_with (first
                        | (at_builtin; refine wpList_append_own _ rfl _ _ 25 rfl w.heap.size 3 i0 (.int .i64 0) 1 8 Tryz.underlying25 hi hz0 hz1 hz2 rfl (by decide) _ _ _ rfl ((HH.own _ _).alloc _) ⟨wr.heap.size + 2, 0, none⟩ 1 1 [.int .i64 i] rfl rfl ?_ ?_ ?_ ?_ ?_ ?_)
                        | go_in)
                      · intro j u hj
                        match j, hj with
                        | 0, hj => simp at hj; subst hj; exact new_cell _ _ _ _ _
                      · intro u hu; simp at hu; subst hu; rfl
                      · have := HH.le; unfold maxLen; omega
                      · have := HH.le; omega
                      · have hz := (HH.bel (.cells #[] 0) (.cells #[] 0)).size
                        simp at hz ⊢
                        omega
                      · intro v' w2 hown' hgrow _
                        have hout := HH.append (len := len) (ii := .int .i64 ((i : Int) + 1)) hlt _ _ _ (by simp) (by omega) hown' hgrow
                        clear hgrow HH hown'
                        go_wp2
                        go_roundw
                        case rel => exact hout
                        case measure => simp [intOf]; omega
                    · first
                        | (exfalso; omega)
                        | (go_wp2
                           go_roundw
                           case rel => exact HH.miss hki' _ _ (by go_num) (by omega)
                           case measure => simp [intOf]; omega)
                  · first
                      | (exfalso; omega)
                      | (go_wp2
                         go_roundw
                         case rel => exact HH.miss hki' _ _ (by go_num) (by omega)
                         case measure => simp [intOf]; omega)
                · first
                    | (exfalso; omega)
                    | (go_wp2
                       go_roundw
                       case rel => exact HH.miss hki' _ _ (by go_num) (by omega)
                       case measure => simp [intOf]; omega)
              · first
                  | (exfalso; omega)
                  | (go_wp2
                     go_roundw
                     case rel => exact HH.miss hki' _ _ (by go_num) (by omega)
                     case measure => simp [intOf]; omega)
          · by_cases hx : (S i).1 = (S k).1
            · by_cases hy : (S i).2 = (S k).2
              · first
                  | (exfalso; omega)
                  | (go_wp2
                     go_roundw
                     case rel => exact HH.miss hki' _ _ (by go_num) (by omega)
                     case measure => simp [intOf]; omega)
              · by_cases h4 : 1 ≤ (S i).2
                · by_cases h3 : 1 ≤ (S k).2
                  · by_cases h2 : (S i).1 < (S k).1 + (S k).2
                    · by_cases h1 : (S k).1 < (S i).1 + (S i).2
                      · go_wp2_with (first
                          | (at_builtin; refine wpList_append_own _ rfl _ _ 25 rfl w.heap.size 3 i0 (.int .i64 0) 1 8 Tryz.underlying25 hi hz0 hz1 hz2 rfl (by decide) _ _ _ rfl ((HH.own _ _).alloc _) ⟨wr.heap.size + 2, 0, none⟩ 1 1 [.int .i64 i] rfl rfl ?_ ?_ ?_ ?_ ?_ ?_)
                          | go_in)
                        · intro j u hj
                          match j, hj with
                          | 0, hj => simp at hj; subst hj; exact new_cell _ _ _ _ _
                        · intro u hu; simp at hu; subst hu; rfl
                        · have := HH.le; unfold maxLen; omega
                        · have := HH.le; omega
                        · have hz := (HH.bel (.cells #[] 0) (.cells #[] 0)).size
                          simp at hz ⊢
                          omega
                        · intro v' w2 hown' hgrow _
                          have hout := HH.append (len := len) (ii := .int .i64 ((i : Int) + 1)) hlt _ _ _ (by simp) (by omega) hown' hgrow
                          clear hgrow HH hown'
                          go_wp2
                          go_roundw
                          case rel => exact hout
                          case measure => simp [intOf]; omega
                      · first
                          | (exfalso; omega)
                          | (go_wp2
                             go_roundw
                             case rel => exact HH.miss hki' _ _ (by go_num) (by omega)
                             case measure => simp [intOf]; omega)
                    · first
                        | (exfalso; omega)
                        | (go_wp2
                           go_roundw
                           case rel => exact HH.miss hki' _ _ (by go_num) (by omega)
                           case measure => simp [intOf]; omega)
                  · first
                      | (exfalso; omega)
                      | (go_wp2
                         go_roundw
                         case rel => exact HH.miss hki' _ _ (by go_num) (by omega)
                         case measure => simp [intOf]; omega)
                · first
                    | (exfalso; omega)
                    | (go_wp2
                       go_roundw
                       case rel => exact HH.miss hki' _ _ (by go_num) (by omega)
                       case measure => simp [intOf]; omega)
            · by_cases h4 : 1 ≤ (S i).2
              · by_cases h3 : 1 ≤ (S k).2
                · by_cases h2 : (S i).1 < (S k).1 + (S k).2
                  · by_cases h1 : (S k).1 < (S i).1 + (S i).2
                    · go_wp2_with (first
                        | (at_builtin; refine wpList_append_own _ rfl _ _ 25 rfl w.heap.size 3 i0 (.int .i64 0) 1 8 Tryz.underlying25 hi hz0 hz1 hz2 rfl (by decide) _ _ _ rfl ((HH.own _ _).alloc _) ⟨wr.heap.size + 2, 0, none⟩ 1 1 [.int .i64 i] rfl rfl ?_ ?_ ?_ ?_ ?_ ?_)
                        | go_in)
                      · intro j u hj
                        match j, hj with
                        | 0, hj => simp at hj; subst hj; exact new_cell _ _ _ _ _
                      · intro u hu; simp at hu; subst hu; rfl
                      · have := HH.le; unfold maxLen; omega
                      · have := HH.le; omega
                      · have hz := (HH.bel (.cells #[] 0) (.cells #[] 0)).size
                        simp at hz ⊢
                        omega
                      · intro v' w2 hown' hgrow _
                        have hout := HH.append (len := len) (ii := .int .i64 ((i : Int) + 1)) hlt _ _ _ (by simp) (by omega) hown' hgrow
                        clear hgrow HH hown'
                        go_wp2
                        go_roundw
                        case rel => exact hout
                        case measure => simp [intOf]; omega
                    · first
                        | (exfalso; omega)
                        | (go_wp2
                           go_roundw
                           case rel => exact HH.miss hki' _ _ (by go_num) (by omega)
                           case measure => simp [intOf]; omega)
                  · first
                      | (exfalso; omega)
                      | (go_wp2
                         go_roundw
                         case rel => exact HH.miss hki' _ _ (by go_num) (by omega)
                         case measure => simp [intOf]; omega)
                · first
                    | (exfalso; omega)
                    | (go_wp2
                       go_roundw
                       case rel => exact HH.miss hki' _ _ (by go_num) (by omega)
                       case measure => simp [intOf]; omega)
              · first
                  | (exfalso; omega)
                  | (go_wp2
                     go_roundw
                     case rel => exact HH.miss hki' _ _ (by go_num) (by omega)
                     case measure => simp [intOf]; omega)
        · have hge : ¬ k < i := by assumption
          have hkl : k = i := by omega
          subst hkl
          have hO : OL S (k + 1) = OL S k := by rw [OL_succ, hany]; rfl
          go_roundw
          case rel => exact ⟨k + 1, by omega, by go_num, by rw [hO]; exact hown, hnx⟩
          case measure => simp [intOf]; omega
    · have hge : ¬ i < len := by assumption
      have hkl : i = len := by omega
      subst hkl
      go_ret
      exact ⟨_, rfl, hown, hnx⟩
end Go.Proofs.YtdefgejneknmgaaGreatDoor
