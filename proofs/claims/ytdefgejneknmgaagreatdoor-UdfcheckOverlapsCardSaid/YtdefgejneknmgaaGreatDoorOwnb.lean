/- Law 45: the walk of the law itself: it returns true for every slice of spans. -/
import Derived.Test.YtdefgejneknmgaaGreatDoorOwna
import Derived.Test.YtdefgejneknmgaaGreatDoorShelf
import Derived.Test.YtdefgejneknmgaaGreatDoorAwake
namespace Go.Proofs.YtdefgejneknmgaaGreatDoor
open Go.RowKit
/-- A slice of the call's own: of length 0, or a row. -/
theorem own_form {w : World} {base : Nat} {e : TypeId} {size : Nat} {v : Value} {n : Nat} {xs : List Value} (h : w.ownsRow base e size v n xs) :
    (n = 0 ∧ ∃ a c, v = .slice a 0 c) ∨ (0 < n ∧ ∃ g cap, v = .slice (some ⟨g, 0, none⟩) n cap ∧ base ≤ g ∧ g < w.heap.size ∧ n ≤ cap ∧ ∀ j, j < n * size → w.cell? ⟨g, j, none⟩ = xs[j]?) := by
  have h0 := h
  obtain ⟨h1, h2⟩ := h
  rcases h2 with ⟨rfl, rfl⟩ | ⟨g, cap, cur, rfl, hg, hc, hn, hm, hs, ht⟩
  · exact .inl ⟨rfl, none, 0, rfl⟩
  · by_cases hz : n = 0
    · subst hz; exact .inl ⟨rfl, _, _, rfl⟩
    · exact .inr ⟨by omega, g, cap, rfl, hg, (Array.getElem?_eq_some_iff.1 hc).1, hn, fun j hj => World.ownsRow.cellAt h0 j hj⟩
theorem vals_get (L : List Nat) (j : Nat) (hj : j < L.length) : (vals L)[j]? = some (.int .i64 ((L.map (fun i : Nat => (i : Int))).getD j 0)) := by
  simp [vals, hj, List.getD]
theorem vals_cells {w : World} {g : Nat} {L : List Nat} (h : ∀ j, j < L.length * 1 → w.cell? ⟨g, j, none⟩ = (vals L)[j]?) : ∀ j, j < (L.map (fun i : Nat => (i : Int))).length → w.cell? ⟨g, 0 + j, none⟩ = some (.int .i64 ((L.map (fun i : Nat => (i : Int))).getD j 0)) := fun j hj => by
  have hj' : j < L.length := by simpa using hj
  rw [Nat.zero_add, h j (by omega), vals_get L j hj']
theorem eq_own {B B' : Nat} {v1 v2 : Value} {L : List Nat} {w : World} (hL : L.length ≤ 60) (h1 : w.ownsRow B 3 1 v1 L.length (vals L)) (h2 : w.ownsRow B' 3 1 v2 L.length (vals L)) :
    Calls Tryz.prog 7 #[v1, v2] w fun e w' => e = .returned (.bool true) ∧ Below w.heap.size w w' := by
  rcases own_form h1 with ⟨hn, a, c, rfl⟩ | ⟨hn, g, cap, rfl, _, _, _, hc⟩
  · rcases own_form h2 with ⟨_, a', c', rfl⟩ | ⟨hn', _⟩
    · exact (Tryz.slices_Equal_int_empty a a' c 0 c' w (by omega)).mono fun e w' ⟨h, h'⟩ => ⟨by rw [h]; rfl, h' ▸ Below.refl _ _⟩
    · omega
  · rcases own_form h2 with ⟨hn', _⟩ | ⟨_, g', cap', rfl, _, _, _, hc'⟩
    · omega
    · refine (Tryz.slices_Equal_int g 0 L.length cap g' 0 L.length cap' (L.map (fun i : Nat => (i : Int))) (L.map (fun i : Nat => (i : Int))) w (by simp) (by simp) (by omega) (by omega) (vals_cells hc) (vals_cells hc')).mono fun e w' ⟨h, q, h'⟩ => ⟨by rw [h]; simp, ?_⟩
      subst h'
      exact ⟨rfl, rfl, rfl, Nat.le_refl _, fun _ _ => rfl⟩
theorem ct_own {B : Nat} {v : Value} {L : List Nat} {w : World} (x : Nat) (hL : L.length ≤ 60) (h1 : w.ownsRow B 3 1 v L.length (vals L)) :
    Calls Tryz.prog 9 #[v, .int .i64 x] w fun e w' => e = .returned (.bool (L.contains x)) ∧ w' = w := by
  rcases own_form h1 with ⟨hn, a, c, rfl⟩ | ⟨hn, g, cap, rfl, _, _, _, hc⟩
  · obtain rfl := List.length_eq_zero_iff.1 hn
    exact Tryz.slices_Contains_int_empty a c x w
  · refine (Tryz.slices_Contains_int g 0 L.length cap (L.map (fun i : Nat => (i : Int))) x w (by simp) (by omega) (vals_cells hc)).mono fun e w' ⟨h, h'⟩ => ⟨?_, h'⟩
    rw [h]
    congr 2
    rw [List.take_of_length_le (by simp), Bool.eq_iff_iff]
    simp only [List.contains_iff_mem, List.mem_map]
    constructor
    · rintro ⟨a, ha, e⟩
      rwa [← Int.ofNat.inj e]
    · exact fun h => ⟨x, h, rfl⟩
/-- The cells of spans. -/
def pc (l : List (Int × Int)) : List Value := l.flatMap fun s => [.int .i64 s.1, .int .i64 s.2]
theorem pc_len (l : List (Int × Int)) : (pc l).length = l.length * 2 := by
  induction l with
  | nil => rfl
  | cons a l ih => simp only [pc, List.flatMap_cons, List.length_append, List.length_cons, List.length_nil] at ih ⊢; omega
theorem pc_get : ∀ (l : List (Int × Int)) (j : Nat), j < l.length → (pc l)[j * 2]? = some (.int .i64 (l.getD j (0, 0)).1) ∧ (pc l)[j * 2 + 1]? = some (.int .i64 (l.getD j (0, 0)).2)
  | [], j, h => absurd h (by simp)
  | a :: l, 0, _ => ⟨rfl, rfl⟩
  | a :: l, j + 1, h => by
    have := pc_get l j (by simpa using h)
    have e : pc (a :: l) = .int .i64 a.1 :: .int .i64 a.2 :: pc l := rfl
    rw [e, show (j + 1) * 2 = j * 2 + 2 by omega]
    simpa using this
theorem mem_getD (l : List (Int × Int)) (x0 x1 : Int) : memB x0 x1 (fun j => l.getD j (0, 0)) l.length = decide ((x0, x1) ∈ l) := by
  rw [Bool.eq_iff_iff, memB, List.any_eq_true, decide_eq_true_eq]
  constructor
  · rintro ⟨j, hj, h⟩
    have hj' := List.mem_range.1 hj
    simp only [Bool.and_eq_true, decide_eq_true_eq] at h
    have : l.getD j (0, 0) = l[j] := by simp [List.getD, hj']
    rw [this] at h
    have e : (x0, x1) = l[j] := Prod.ext h.1 h.2
    rw [e]
    exact List.getElem_mem hj'
  · intro h
    obtain ⟨j, hj, e⟩ := List.getElem_of_mem h
    refine ⟨j, List.mem_range.2 hj, ?_⟩
    have : l.getD j (0, 0) = (x0, x1) := by simp [List.getD, hj, e]
    simp only [this, decide_true, Bool.and_self]
theorem cts_own {B : Nat} {v : Value} {l : List (Int × Int)} {w : World} (x0 x1 : Int) (hL : l.length ≤ 60) (h1 : w.ownsRow B 29 2 v l.length (pc l)) :
    Calls Tryz.prog 10 #[v, .agg #[.int .i64 x0, .int .i64 x1]] w fun e w' => e = .returned (.bool (decide ((x0, x1) ∈ l))) ∧ Below w.heap.size w w' := by
  rcases own_form h1 with ⟨hn, a, c, rfl⟩ | ⟨hn, g, cap, rfl, _, hg, _, hc⟩
  · obtain rfl := List.length_eq_zero_iff.1 hn
    simpa using cts_empty a c x0 x1 w
  · have := cts_any g 0 l.length cap x0 x1 (fun j => l.getD j (0, 0)) w hL hg (fun j hj => by rw [Nat.zero_add, hc _ (by omega), (pc_get l j hj).1]) (fun j hj => by rw [Nat.zero_add, hc _ (by omega), (pc_get l j hj).2])
    rw [mem_getD] at this
    exact this
def OverPost (S : Nat → Int × Int) (n : Nat) (w : World) (e : Ending) (w' : World) : Prop := ∃ v, e = .returned v ∧ w'.ownsRow w.heap.size 3 1 v (OL S n).length (vals (OL S n)) ∧ Below w.heap.size w w'
theorem over_own {B : Nat} {v : Value} {l : List (Int × Int)} {w : World} (hL : l.length ≤ 60) (hs : ∀ s ∈ l, small s) (h1 : w.ownsRow B 29 2 v l.length (pc l)) : Calls Tryz.prog 6 #[v] w (OverPost (fun j => l.getD j (0, 0)) l.length w) := by
  rcases own_form h1 with ⟨hn, a, c, rfl⟩ | ⟨hn, g, cap, rfl, _, hg, hcap, hc⟩
  · refine (over_empty a c w).mono fun e w' ⟨h, h'⟩ => ?_
    subst h'
    refine ⟨_, h, ?_, Below.refl _ _⟩
    rw [hn]
    exact World.ownsRow_nil _ _ _ _
  · exact over_any g 0 l.length cap (fun j => l.getD j (0, 0)) w hL hg hcap (fun j hj => by rw [Nat.zero_add, hc _ (by omega), (pc_get l j hj).1]) (fun j hj => by rw [Nat.zero_add, hc _ (by omega), (pc_get l j hj).2])
      (fun j hj => hs _ (by simp [List.getD, hj]))
theorem rover_empty (a : Option Addr) (cap : Nat) (w : World) : Calls Tryz.prog 8 #[.slice a 0 cap] w fun e w' => ∃ v, e = .returned v ∧ w'.ownsRow w.heap.size 3 1 v 0 [] ∧ Below w.heap.size w w' := by
  go_enter Tryz.func8, Tryz.ntmps8
  go_wp2
  refine wp_loop_rounds 1 ?_
  rw [rounds_succ]
  go_wp2
  go_ret
  exact ⟨_, rfl, World.ownsRow_lit _ _ 0 (Nat.le_refl _) (by decide) rfl, (Below.refl _ _).alloc (Nat.le_refl _) _⟩
/-- What has been kept so far. -/
structure Kept (S : Nat → Int × Int) (k : Nat) (l : List (Int × Int)) : Prop where
  len : l.length ≤ k
  from_ : ∀ s ∈ l, ∃ i, i < k ∧ s = S i
  apart : ∀ q, q < l.length → ∀ p, p < q → clB (l.getD q (0, 0)).1 (l.getD q (0, 0)).2 (l.getD p (0, 0)).1 (l.getD p (0, 0)).2 = false
theorem Kept.skip {S : Nat → Int × Int} {k : Nat} {l : List (Int × Int)} (h : Kept S k l) : Kept S (k + 1) l := ⟨by have := h.len; omega, fun s hs => let ⟨i, hi, e⟩ := h.from_ s hs; ⟨i, by omega, e⟩, h.apart⟩
theorem Kept.push {S : Nat → Int × Int} {k len : Nat} {l : List (Int × Int)} (h : Kept S k l) (hk : k < len) (hm : (OL S len).contains k = false) : Kept S (k + 1) (l ++ [S k]) := by
  have hno : anyB (S k).1 (S k).2 S k = false := by
    cases ha : anyB (S k).1 (S k).2 S k with
    | false => rfl
    | true =>
      have : (OL S len).contains k = true := by simp [OL, hk, ha]
      rw [this] at hm; cases hm
  have hall : ∀ i, i < k → clB (S k).1 (S k).2 (S i).1 (S i).2 = false := fun i hi => by
    rw [anyB, List.any_eq_false] at hno
    simpa using hno i (List.mem_range.2 hi)
  refine ⟨by have := h.len; simp; omega, fun s hs => ?_, fun q hq p hp => ?_⟩
  · rcases List.mem_append.1 hs with hs | hs
    · obtain ⟨i, hi, e⟩ := h.from_ s hs; exact ⟨i, by omega, e⟩
    · exact ⟨k, by omega, List.mem_singleton.1 hs⟩
  · have hq' : q < l.length + 1 := by simpa using hq
    have ep : (l ++ [S k]).getD p (0, 0) = l.getD p (0, 0) := by simp [List.getD, List.getElem?_append_left (show p < l.length by omega)]
    rw [ep]
    by_cases hql : q = l.length
    · subst hql
      have eq : (l ++ [S k]).getD l.length (0, 0) = S k := by simp [List.getD]
      rw [eq]
      obtain ⟨i, hi, e⟩ := h.from_ (l.getD p (0, 0)) (by simp [List.getD, hp])
      rw [e]
      exact hall i hi
    · have eq : (l ++ [S k]).getD q (0, 0) = l.getD q (0, 0) := by simp [List.getD, List.getElem?_append_left (show q < l.length by omega)]
      rw [eq]
      exact h.apart q (by omega) p hp
theorem Kept.none {S : Nat → Int × Int} {k : Nat} {l : List (Int × Int)} (h : Kept S k l) : OL (fun j => l.getD j (0, 0)) l.length = [] := by
  rw [OL, List.filter_eq_nil_iff]
  intro q hq
  rw [anyB, Bool.not_eq_true, List.any_eq_false]
  intro p hp
  simpa using h.apart q (List.mem_range.1 hq) p (List.mem_range.1 hp)
end Go.Proofs.YtdefgejneknmgaaGreatDoor

namespace Go.Proofs.YtdefgejneknmgaaGreatDoor
open Go.RowKit
theorem awake_any (w : World) : Calls Tryz.prog 4 #[] w fun e u => e = .returned (.bool true) ∧ Below w.heap.size w u := awake_calls w
theorem i29 : (Tryz.prog.info? 29).map (fun i => (i.zero, i.size, i.bytes)) = some (some (.agg #[.int .i64 0, .int .i64 0]), 2, 16) := by kernel_rfl
def MainRel (S : Nat → Int × Int) (len : Nat) (w5 : World) (v kk : Value) (wr : World) : Prop := ∃ (k : Nat) (l : List (Int × Int)), k ≤ len ∧ kk = .int .i64 k ∧ Kept S k l ∧ wr.ownsRow w5.heap.size 29 2 v l.length (pc l) ∧ Below w5.heap.size w5 wr
theorem MainRel.mk {S : Nat → Int × Int} {len : Nat} {w5 : World} {v kk : Value} {wr : World} (k : Nat) (l : List (Int × Int)) (h1 : k ≤ len) (h2 : kk = .int .i64 k) (h3 : Kept S k l) (h4 : wr.ownsRow w5.heap.size 29 2 v l.length (pc l)) (h5 : Below w5.heap.size w5 wr) : MainRel S len w5 v kk wr := ⟨k, l, h1, h2, h3, h4, h5⟩
set_option maxHeartbeats 3200000 in
set_option maxRecDepth 1000000 in
theorem law_any (b off len cap : Nat) (S : Nat → Int × Int) (w : World) (hlen : len ≤ 9223372036854775807) (hcap : len ≤ cap) (hb : b < w.heap.size)
    (hc0 : ∀ j, j < len → w.cell? ⟨b, off + j * 2, none⟩ = some (.int .i64 (S j).1)) (hc1 : ∀ j, j < len → w.cell? ⟨b, off + j * 2 + 1, none⟩ = some (.int .i64 (S j).2)) :
    Calls Tryz.prog 3 #[.slice (some ⟨b, off, none⟩) len cap] w fun e w' => e = .returned (.bool true) ∧ Below w.heap.size w w' := by
  obtain ⟨i0, hi, hz0, hz1, hz2⟩ := info_parts i29
  go_enter Tryz.func3, Tryz.ntmps3
  go_wp2_with fail
  refine (awake_any w).mono ?_
  rintro e w1 ⟨rfl, hb1⟩
  go_wp2_with fail
  refine (few_any b off len cap S w1 hlen (fun j hj => (hb1.cell (by exact hb)).trans (hc0 j hj)) (fun j hj => (hb1.cell (by exact hb)).trans (hc1 j hj))).mono ?_
  rintro e w2 ⟨r, rfl, rfl, hr⟩
  cases r
  · clear hr hc0 hc1
    go_wp2
    go_ret
    exact ⟨rfl, hb1⟩
  · obtain ⟨h60, hS⟩ := hr rfl
    clear hr
    go_wp2_with fail
    refine (over_any b off len cap S w2 h60 (Nat.lt_of_lt_of_le hb hb1.size) hcap (fun j hj => (hb1.cell (by exact hb)).trans (hc0 j hj)) (fun j hj => (hb1.cell (by exact hb)).trans (hc1 j hj)) hS).mono ?_
    rintro e w3 ⟨vm, rfl, hm3, hb3⟩
    have hn3 : Below w.heap.size w w3 := hb1.trans (hb3.mono hb1.size)
    go_wp2_with fail
    refine (rover_any b off len cap S w3 h60 (Nat.lt_of_lt_of_le hb hn3.size) (fun j hj => (hn3.cell (by exact hb)).trans (hc0 j hj)) (fun j hj => (hn3.cell (by exact hb)).trans (hc1 j hj)) hS).mono ?_
    rintro e w4 ⟨vr, rfl, hr4, hb4⟩
    have hm4 := ownsRow_below hm3 hb4
    have hn4 : Below w.heap.size w w4 := hn3.trans (hb4.mono hn3.size)
    have hOL := OL_le S len
    go_wp2_with fail
    refine (eq_own (by omega) hm4 hr4).mono ?_
    rintro e w5 ⟨rfl, hb5⟩
    have hm5 := ownsRow_below hm4 hb5
    have hn5 : Below w.heap.size w w5 := hn4.trans (hb5.mono hn4.size)
    clear hr4 hb4 hb3 hb1 hm3 hm4 hn3 hn4 hb5
    go_wp2
    go_loopw [4, 21] (fun v kk wr => MainRel S len w5 v kk wr) (fun _ kk _ => len - (intOf kk).toNat)
    case atStart => exact ⟨0, [], Nat.zero_le _, rfl, ⟨by simp, fun s hs => (by cases hs), fun q hq => absurd hq (by simp)⟩, World.ownsRow_nil _ _ _ _, Below.refl _ _⟩
    case round =>
      obtain ⟨k, l, hk, rfl, hkept, hown, hnx⟩ := hrel
      have hnw : Below w.heap.size w wr := hn5.trans (hnx.mono hn5.size)
      have g0 : k < len → wr.cell? ⟨b, off + k * 2, none⟩ = some (.int .i64 (S k).1) := fun h => (hnw.cell (by exact hb)).trans (hc0 k h)
      have g1 : k < len → wr.cell? ⟨b, off + k * 2 + 1, none⟩ = some (.int .i64 (S k).2) := fun h => (hnw.cell (by exact hb)).trans (hc1 k h)
      have hll := hkept.len
      go_wp2_with fail
      · have hlt : k < len := by assumption
        have hA : Below w5.heap.size w5 (wr.alloc (.cells #[.int .i64 (S k).1, .int .i64 (S k).2] 29)) := hnx.alloc hnx.size _
        have hownA := hown.alloc (.cells #[.int .i64 (S k).1, .int .i64 (S k).2] 29)
        have p0 : (wr.alloc (.cells #[.int .i64 (S k).1, .int .i64 (S k).2] 29)).cell? ⟨wr.heap.size, 0, none⟩ = some (.int .i64 (S k).1) := by rw [World.cell?_alloc_at _ _ _ _ rfl]; rfl
        have p1 : (wr.alloc (.cells #[.int .i64 (S k).1, .int .i64 (S k).2] 29)).cell? ⟨wr.heap.size, 1, none⟩ = some (.int .i64 (S k).2) := by rw [World.cell?_alloc_at _ _ _ _ rfl]; rfl
        have hsz : (wr.alloc (.cells #[.int .i64 (S k).1, .int .i64 (S k).2] 29)).heap.size = wr.heap.size + 1 := by simp
        refine (ct_own k (by omega) (ownsRow_below hm5 hA)).mono ?_
        rintro e wa ⟨rfl, rfl⟩
        clear g0 g1 hc0 hc1 hnw hown hnx
        generalize (wr.alloc (.cells #[.int .i64 (S k).1, .int .i64 (S k).2] 29)) = wa at hA hownA p0 p1 hsz ⊢
        generalize hct : (OL S len).contains k = ct
        cases ct
        · go_wp2_with fail
          refine (cts_own (S k).1 (S k).2 (by omega) hownA).mono ?_
          rintro e wb ⟨rfl, hbb⟩
          have hB : Below w5.heap.size w5 wb := hA.trans (hbb.mono hA.size)
          have hownB := ownsRow_below hownA hbb
          have r0 : wb.cell? ⟨wr.heap.size, 0, none⟩ = some (.int .i64 (S k).1) := (hbb.cell (by show wr.heap.size < wa.heap.size; omega)).trans p0
          have r1 : wb.cell? ⟨wr.heap.size, 1, none⟩ = some (.int .i64 (S k).2) := (hbb.cell (by show wr.heap.size < wa.heap.size; omega)).trans p1
          clear hbb hA hownA p0 p1
          generalize hmem : decide (((S k).1, (S k).2) ∈ l) = mm
          cases mm
          · go_wp2_with (first
              | (at_builtin; refine wpList_append_own _ rfl _ _ 22 rfl w5.heap.size 29 i0 (.agg #[.int .i64 0, .int .i64 0]) 2 16 Tryz.underlying22 hi hz0 hz1 hz2 rfl (by decide) _ _ _ rfl (hownB.alloc _) ⟨wb.heap.size, 0, none⟩ 1 1 [.int .i64 (S k).1, .int .i64 (S k).2] rfl rfl ?_ ?_ ?_ ?_ ?_ ?_)
              | go_in)
            · intro j u hj
              match j, hj with
              | 0, hj => simp at hj; subst hj; simp [Addr.add]
              | 1, hj => simp at hj; subst hj; simp [Addr.add]
            · intro u hu; simp at hu; rcases hu with rfl | rfl <;> rfl
            · unfold maxLen; omega
            · omega
            · have := hB.size; simp; omega
            · intro v' w9 hown' hgrow _
              have hn9 : Below w5.heap.size w5 w9 := (hB.alloc hB.size _).grown hgrow (by have := hB.size; simp; omega) (fun j hj => (hownB.lt j hj).1)
              have hrel' : MainRel S len w5 v' (.int .i64 ((k : Int) + 1)) w9 := .mk (k + 1) (l ++ [S k]) (by omega) (by simp) (hkept.push hlt hct) (by simpa [pc] using hown') hn9
              clear hgrow hB hownB hown' hn9 r0 r1
              go_wp2
              go_roundw
              case rel => exact hrel'
              case measure => simp [intOf]; omega
          · go_wp2
            go_roundw
            case rel => exact .mk (k + 1) l (by omega) (by go_num) hkept.skip hownB hB
            case measure => simp [intOf]; omega
        · go_wp2
          go_roundw
          case rel => exact .mk (k + 1) l (by omega) (by go_num) hkept.skip hownA hA
          case measure => simp [intOf]; omega
      · have hge : ¬ k < len := by assumption
        have hkl : k = len := by omega
        subst hkl
        refine (over_own (by omega) (fun s hs => by obtain ⟨i, hi', rfl⟩ := hkept.from_ s hs; exact hS i (by omega)) hown).mono ?_
        rintro e wz ⟨vz, rfl, hz, hbz⟩
        have hnz : Below w.heap.size w wz := hnw.trans (hbz.mono hnw.size)
        rw [hkept.none] at hz
        obtain ⟨_, az, cz, rfl⟩ : 0 = 0 ∧ ∃ a c, vz = .slice a 0 c := by
          rcases own_form hz with h | ⟨h, _⟩
          · exact ⟨rfl, h.2⟩
          · simp at h
        clear g0 g1 hc0 hc1 hz hbz
        go_wp2
        go_ret
        exact ⟨rfl, hnz⟩
set_option maxHeartbeats 800000 in
set_option maxRecDepth 1000000 in
theorem law_empty (a : Option Addr) (cap : Nat) (w : World) : Calls Tryz.prog 3 #[.slice a 0 cap] w fun e w' => e = .returned (.bool true) ∧ Below w.heap.size w w' := by
  go_enter Tryz.func3, Tryz.ntmps3
  go_wp2_with fail
  refine (awake_any w).mono ?_
  rintro e w1 ⟨rfl, hb1⟩
  go_wp2_with fail
  refine (few_empty a cap w1).mono ?_
  rintro e w2 ⟨rfl, rfl⟩
  go_wp2_with fail
  refine (over_empty a cap w2).mono ?_
  rintro e w3 ⟨rfl, rfl⟩
  go_wp2_with fail
  refine (rover_empty a cap w3).mono ?_
  rintro e w4 ⟨vr, rfl, hr4, hb4⟩
  obtain ⟨_, az, cz, rfl⟩ : 0 = 0 ∧ ∃ a c, vr = .slice a 0 c := by
    rcases own_form hr4 with h | ⟨h, _⟩
    · exact ⟨rfl, h.2⟩
    · omega
  have hn4 : Below w.heap.size w w4 := hb1.trans (hb4.mono hb1.size)
  clear hr4 hb4 hb1
  go_wp2_with fail
  refine (Tryz.slices_Equal_int_empty none az 0 0 cz w4 (by omega)).mono ?_
  rintro e w5 ⟨rfl, rfl⟩
  go_wp2
  refine wp_loop_rounds 1 ?_
  rw [rounds_succ]
  go_wp2_with fail
  refine (over_empty none 0 w5).mono ?_
  rintro e w6 ⟨rfl, rfl⟩
  go_wp2
  go_ret
  exact ⟨rfl, hn4⟩
end Go.Proofs.YtdefgejneknmgaaGreatDoor
