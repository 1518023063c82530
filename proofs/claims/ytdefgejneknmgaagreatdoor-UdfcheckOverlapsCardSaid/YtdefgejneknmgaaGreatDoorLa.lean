/- Law 45, UdfcheckOverlaps: for every slice of spans, in every world and for every tape, the law returns true and leaves its argument as it was: the row's contract and its lift. -/
import Derived.Test.YtdefgejneknmgaaGreatDoorRows
import Derived.Test.YtdefgejneknmgaaGreatDoorOwnb
import Derived.ProofKit
import Derived.SizedLaws
import Derived.Deep.SlicePairs
import Derived.OpenShut
import Derived.Carry
import Derived.Lay
import Derived.LaidOnce
import Derived.SevenTiedAt
import Derived.Stop.Joined
namespace Go.Proofs.YtdefgejneknmgaaGreatDoor
open Go.ChangeShapes Go.WideShapes Go.ChangeAt Go.WideMaps Go.WideElems Go.RowKit Go.Deep
theorem laidOut : laidOutB Tryz.prog = true := by kernel_rfl
theorem cells29 : Tryz.prog.cellsOf 29 = 2 := by kernel_rfl
theorem cells3 : Tryz.prog.cellsOf 3 = 1 := by kernel_rfl
set_option maxRecDepth 100000 in
theorem contract {H : Type} {enc : TypeId × Value → H} (W : World) (base : Nat) (args : Array Value) (ds gs : List (DataW H)) (before : List MemPlace)
    (hval0 : ∀ (j : Nat) t v, Tryz.f3.params[j]? = some t → args[j]? = some v → Value.okWide Tryz.prog W .any base t v)
    (hW : DataW.Whole enc Tryz.prog Tryz.f3.params.toList Rows.udfcheckOverlapsSpec.vars false W args.toList ds gs before) :
    Calls Tryz.prog 3 args W fun e W' => ∃ v, e = .returned v ∧ Rows.udfcheckOverlapsSpec.post enc Tryz.prog Tryz.f3 false true false false W args v W' := by
  have hval : ∀ (j : Nat) t v, Tryz.f3.params[j]? = some t → args[j]? = some v → Value.okWide Tryz.prog W .any base t v := hval0
  have hW' := hW
  obtain ⟨p, q, hA0, hV, rfl, _, _⟩ := hW
  have hA : DataW.TrodAll enc Tryz.prog W 0 (fun _ => true) true Tryz.f3.params.toList args.toList ds p := hA0
  rw [Tryz.params3] at hA hval
  obtain ⟨v0, d0, rfl, rfl, h0⟩ := trodAll_one hA
  obtain ⟨rfl, rfl⟩ := trodVars_none hV
  obtain ⟨a0, len, cap, rfl⟩ := okWide_slice Tryz.underlying22 (hval 0 22 v0 rfl rfl)
  have h0k := h0
  obtain ⟨fuel, hf⟩ := h0
  clear hA0 hval0
  simp only [List.append_nil] at hW'
  have hlt : ∀ x ∈ p, x.block < W.heap.size := fun x hx => by simpa using hW'.lt x hx
  have hargs : ∀ (W' : World), Below W.heap.size W W' → DataW.Trod enc Tryz.prog W' 0 (fun b => decide (b < W.heap.size)) true 22 (.slice a0 len cap) d0 p :=
    fun W' hn => Below.trod laidOut (by kernel_rfl) (of_decide_eq_true (by kernel_rfl)) h0k hn hlt
  have fin : Calls Tryz.prog 3 #[.slice a0 len cap] W (fun e w' => e = .returned (.bool true) ∧ Below W.heap.size W w') → Calls Tryz.prog 3 #[.slice a0 len cap] W fun e W' => ∃ v, e = .returned v ∧ Rows.udfcheckOverlapsSpec.post enc Tryz.prog Tryz.f3 false true false false W #[.slice a0 len cap] v W' := fun h =>
    h.mono fun e W' ⟨he, hnx⟩ => ⟨_, he, _, _, _, [], p, [], hW', trodAll_mk1 (shut_bool Tryz.underlying4 _), trodAll_mk1 (hargs _ hnx), rfl, hnx.frame _, fun h => by cases h⟩
  refine fin ?_
  by_cases hl0 : len = 0
  · subst hl0; exact law_empty a0 cap W
  rcases open_slice_pairs (f0 := { name := "Start", type := 3, offset := 0, embedded := false, tag := "", pkgPath := "", byteOffset := 0 }) (f1 := { name := "Count", type := 3, offset := 1, embedded := false, tag := "", pkgPath := "", byteOffset := 8 }) Tryz.underlying22 (by kernel_rfl) cells29 rfl rfl cells3 cells3 hf with ⟨hcs, hx⟩ | ⟨a, len', cap', m, n, V0, V1, D0, D1, P0, P1, hcs, _, hl, hm, hmm, hx, hcell⟩
  · simp [Value.cells] at hcs
    omega
  · simp [Value.cells] at hcs
    obtain ⟨rfl, rfl, rfl⟩ := hcs
    simp only [if_true] at hmm
    obtain ⟨b, off, spot⟩ := a
    have hspot : spot = none := by simpa [Addr.add] using World.cell?_spot (hcell 0 (by omega)).1
    subst hspot
    simp only [Prod.mk.injEq] at hx
    have hbW : b < W.heap.size := hlt (.cell b off) (by rw [hx.2]; exact List.mem_append_left _ (MemPlace.mem_row.2 ⟨0, by omega, by simp⟩))
    have hv : ∀ i, i < m → ∃ s : Int × Int, V0 i = .int .i64 s.1 ∧ V1 i = .int .i64 s.2 := fun i hi => by
      obtain ⟨_, _, t0, t1⟩ := hcell i hi
      obtain ⟨k0, e0, _⟩ := DataW.trod_int Tryz.underlying3 t0
      obtain ⟨k1, e1, _⟩ := DataW.trod_int Tryz.underlying3 t1
      exact ⟨(k0, k1), by simpa using e0, by simpa using e1⟩
    obtain ⟨S, hS⟩ := choose_lt hv
    refine law_any b off len cap S W (by unfold maxLen at hm; omega) hl hbW (fun j hj => ?_) (fun j hj => ?_)
    · have := (hcell j (by omega)).1
      rw [(hS j (by omega)).1] at this
      rw [← add_plain]
      exact this
    · have := (hcell j (by omega)).2.1
      rw [(hS j (by omega)).2] at this
      rw [Nat.add_assoc, ← add_plain]
      exact this
theorem own : ownKnob Tryz.prog.godebug = none := by kernel_rfl
set_option maxRecDepth 100000 in
theorem lifted (os : Os) (started : os.Started) (H : Type) (enc : TypeId × Value → H) :
    ReturnsInHanded {} Tryz.checked os 3 .any (fun w args => (Rows.udfcheckOverlapsSpec.pre enc Tryz.prog Tryz.f3 [] false w args ∧ laidMetH Tryz.prog Rows.udfcheckOverlapsRow.laid w) ∧ sizedMet enc Tryz.prog Tryz.f3 (OpenSpec.ofChange Rows.udfcheckOverlapsSpec) false w args)
      (Rows.udfcheckOverlapsSpec.post enc Tryz.prog Tryz.f3 false true false false) := by
  refine returnsInHanded_of_change_and (C := Tryz.checked) (X := fun w _ => laidMetH Tryz.prog Rows.udfcheckOverlapsRow.laid w) (fun _ _ _ hh h => h.of_heap hh) own started (by kernel_rfl) Tryz.func3
    (ChangeSpec.witness_shaped (enc := enc) (C := Tryz.checked) (os := os) (X := fun w _ => laidMetH Tryz.prog Rows.udfcheckOverlapsRow.laid w) false (World.laidAll Tryz.prog os Rows.udfcheckOverlapsRow.laid) #[.slice none 0 0] 8 (World.laidAll_os _ _ _)
      (World.shaped_of_ZipB (by kernel_rfl) (by kernel_rfl)) (by kernel_rfl) (by kernel_rfl) (by kernel_rfl)
      (by rw [MakeChecks.laidMetH_plain _ _ _ (by kernel_rfl)]; exact laidMet_laidAll _ (by kernel_rfl) (by kernel_rfl))) ?_
  intro W base args ds gs before hval0 hW _ _ _ _
  exact contract W base args ds gs before hval0 hW
end Go.Proofs.YtdefgejneknmgaaGreatDoor
