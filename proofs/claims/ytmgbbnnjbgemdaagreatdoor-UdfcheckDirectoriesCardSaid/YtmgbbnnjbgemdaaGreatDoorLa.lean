/- Law 45, UdfcheckDirectories: for every string, slice of ints and int, in every world and for every tape, the law returns true and leaves its arguments as they were: the row's contract and its lift. -/
import Derived.Test.YtmgbbnnjbgemdaaGreatDoorRows
import Derived.Test.YtmgbbnnjbgemdaaGreatDoorDirf
import Derived.Test.YtmgbbnnjbgemdaaGreatDoorLaid
import Derived.ProofKit
import Derived.SizedLaws
import Derived.OpenShut
import Derived.Carry
import Derived.ChangeSlices
import Derived.Lay
import Derived.LaidOnce
import Derived.SevenTiedAt
import Derived.Stop.Joined
import Derived.PinnedBridge
import Derived.ChangeShapes
import Derived.Deep.Slices
namespace Go.Proofs.YtmgbbnnjbgemdaaGreatDoor
open Go.ChangeShapes Go.WideShapes Go.ChangeAt Go.WideMaps Go.WideElems Go.RowKit Go.Deep
theorem cellsInt : Tryz.prog.cellsOf 3 = 1 := by kernel_rfl
theorem readS : Tryz.prog.readableRec 9 = true := by kernel_rfl
theorem readL : Tryz.prog.readableRec 22 = true := by kernel_rfl
theorem readI : Tryz.prog.readableRec 3 = true := by kernel_rfl
theorem rowS : 9 < Tryz.prog.types.size := of_decide_eq_true (by kernel_rfl)
theorem rowL : 22 < Tryz.prog.types.size := of_decide_eq_true (by kernel_rfl)
theorem rowI : 3 < Tryz.prog.types.size := of_decide_eq_true (by kernel_rfl)
set_option maxRecDepth 1000000 in
theorem contract {H : Type} {enc : TypeId × Value → H} (W : World) (base : Nat) (args : Array Value) (ds gs : List (DataW H)) (before : List MemPlace)
    (hval0 : ∀ (j : Nat) t v, Tryz.f3.params[j]? = some t → args[j]? = some v → Value.okWide Tryz.prog W .any base t v)
    (hW : DataW.Whole enc Tryz.prog Tryz.f3.params.toList Rows.udfcheckDirectoriesSpec.vars false W args.toList ds gs before) (hTb : Tabs W) :
    Calls Tryz.prog 3 args W fun e W' => ∃ v, e = .returned v ∧ Rows.udfcheckDirectoriesSpec.post enc Tryz.prog Tryz.f3 false true false false W args v W' := by
  have hval : ∀ (j : Nat) t v, Tryz.f3.params[j]? = some t → args[j]? = some v → Value.okWide Tryz.prog W .any base t v := hval0
  have hW' := hW
  obtain ⟨p, q, hA0, hV, rfl, _, _⟩ := hW
  have hA : DataW.TrodAll enc Tryz.prog W 0 (fun _ => true) true Tryz.f3.params.toList args.toList ds p := hA0
  rw [Tryz.params3] at hA hval
  obtain ⟨v0, v1, v2, d0, d1, d2, p0, p1, p2, rfl, rfl, rfl, h0, h1, h2⟩ := trodAll_three hA
  obtain ⟨rfl, rfl⟩ := trodVars_none hV
  obtain ⟨s, rfl⟩ := okWide_string Tryz.underlying9 (hval 0 9 v0 rfl rfl)
  obtain ⟨a0, len, cap, rfl⟩ := okWide_slice Tryz.underlying22 (hval 1 22 v1 rfl rfl)
  obtain ⟨lba, rfl⟩ := okWide_int Tryz.underlying3 (hval 2 3 v2 rfl rfl)
  have h1k := h1
  obtain ⟨fuel, hf⟩ := h1
  clear hA0 hval0
  simp only [List.append_nil] at hW'
  have hlt : ∀ x ∈ p0 ++ p1 ++ p2, x.block < W.heap.size := fun x hx => by simpa using hW'.lt x hx
  have fin : Calls Tryz.prog 3 #[.string s, .slice a0 len cap, .int .i64 lba] W (fun e w' => e = .returned (.bool true) ∧ Below W.heap.size W w') → Calls Tryz.prog 3 #[.string s, .slice a0 len cap, .int .i64 lba] W fun e W' => ∃ v, e = .returned v ∧ Rows.udfcheckDirectoriesSpec.post enc Tryz.prog Tryz.f3 false true false false W #[.string s, .slice a0 len cap, .int .i64 lba] v W' := fun h =>
    h.mono fun e W' ⟨he, hnx⟩ => ⟨_, he, _, _, _, [], _, [], hW', trodAll_mk1 (shut_bool Tryz.underlying4 _),
      trodAll_mk3 (Below.trod laidOut readS rowS h0 hnx (fun x hx => hlt x (by simp [hx]))) (Below.trod laidOut readL rowL h1k hnx (fun x hx => hlt x (by simp [hx]))) (Below.trod laidOut readI rowI h2 hnx (fun x hx => hlt x (by simp [hx]))), rfl, hnx.frame _, fun h => by cases h⟩
  refine fin ?_
  rcases open_ints Tryz.underlying22 Tryz.underlying3 cellsInt hf with ⟨hcs, hx⟩ | ⟨a, len', cap', zs, hcs, _, hl, hm, hz, hx, hcell, hwz⟩
  · simp [Value.cells] at hcs
    obtain ⟨rfl, rfl, rfl⟩ := hcs
    exact law_any s none [] 0 lba W hTb (fun k h => absurd h (by simp))
  · simp [Value.cells] at hcs
    obtain ⟨rfl, rfl, rfl⟩ := hcs
    have hzl : len ≤ zs.length := by rw [hz]; split <;> omega
    have hbl : (zs.take len).length = len := by rw [List.length_take]; omega
    have key := law_any s (some a) (zs.take len) cap lba W hTb (fun k h => by
      have hk : k < zs.length := by omega
      have hc := hcell k hk
      obtain ⟨b, off, spot⟩ := a
      have hspot : spot = none := by simpa [Addr.add] using World.cell?_spot (hcell 0 (by omega))
      subst hspot
      simp only [Prod.mk.injEq] at hx
      have hbW : b < W.heap.size := hlt (.cell b off) (by rw [hx.2]; exact List.mem_append_left _ (List.mem_append_right _ (MemPlace.mem_row.2 ⟨0, by omega, by simp⟩)))
      refine ⟨b, off, rfl, hbW, ?_⟩
      rw [← add_plain, hc, List.getD, List.getElem?_eq_getElem hk]
      simp)
    rw [hbl] at key
    exact key
theorem own : ownKnob Tryz.prog.godebug = none := by kernel_rfl
theorem laidPlain : (Rows.udfcheckDirectoriesRow.laid.all fun x => x.2.handleName?.isNone) = true := by kernel_rfl
theorem inFirst : ("unicode/utf8.first", Lib.firstData) ∈ Rows.udfcheckDirectoriesRow.laid := by
  rw [← Pinned.utf8First_eq]
  unfold Rows.udfcheckDirectoriesRow
  first
    | exact List.mem_cons_self
    | exact List.mem_cons_of_mem _ List.mem_cons_self
    | exact List.mem_cons_of_mem _ (List.mem_cons_of_mem _ List.mem_cons_self)
theorem acceptEq : (Rows.laid_unicode_utf8_acceptRanges : DataW Unit) = Lib.acceptData := by kernel_rfl
theorem inAccept : ("unicode/utf8.acceptRanges", Lib.acceptData) ∈ Rows.udfcheckDirectoriesRow.laid := by
  rw [← acceptEq]
  unfold Rows.udfcheckDirectoriesRow
  first
    | exact List.mem_cons_self
    | exact List.mem_cons_of_mem _ List.mem_cons_self
    | exact List.mem_cons_of_mem _ (List.mem_cons_of_mem _ List.mem_cons_self)
set_option maxRecDepth 100000 in
theorem lifted (os : Os) (started : os.Started) (H : Type) (enc : TypeId × Value → H) :
    ReturnsInHanded {} Tryz.checked os 3 .any (fun w args => (Rows.udfcheckDirectoriesSpec.pre enc Tryz.prog Tryz.f3 [] false w args ∧ laidMetH Tryz.prog Rows.udfcheckDirectoriesRow.laid w) ∧ sizedMet enc Tryz.prog Tryz.f3 (OpenSpec.ofChange Rows.udfcheckDirectoriesSpec) false w args)
      (Rows.udfcheckDirectoriesSpec.post enc Tryz.prog Tryz.f3 false true false false) := by
  refine returnsInHanded_of_change_and (C := Tryz.checked) (X := fun w _ => laidMetH Tryz.prog Rows.udfcheckDirectoriesRow.laid w) (fun _ _ _ hh h => h.of_heap hh) own started (by kernel_rfl) Tryz.func3
    (ChangeSpec.witness_shaped (enc := enc) (C := Tryz.checked) (os := os) (X := fun w _ => laidMetH Tryz.prog Rows.udfcheckDirectoriesRow.laid w) false (World.laidAll Tryz.prog os Rows.udfcheckDirectoriesRow.laid) #[.string ⟨#[]⟩, .slice none 0 0, .int .i64 0] 8 (World.laidAll_os _ _ _)
      (World.shaped_of_ZipB (by kernel_rfl) (by kernel_rfl)) (by kernel_rfl) (by kernel_rfl) (by kernel_rfl)
      (by rw [MakeChecks.laidMetH_plain _ _ _ laidPlain]; exact laidMet_laidAll _ (by kernel_rfl) (by kernel_rfl))) ?_
  intro W base args ds gs before hval0 hW _ _ hL _
  refine contract W base args ds gs before hval0 hW ?_
  rw [MakeChecks.laidMetH_plain _ _ _ laidPlain] at hL
  exact tabs_of_laid hL inFirst inAccept
end Go.Proofs.YtmgbbnnjbgemdaaGreatDoor
