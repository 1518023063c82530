/- Law 58, VerifierLines: for every report, in every world and for every tape, the law returns true and leaves its argument as it was: the row's contract and its lift. -/
import Derived.Test.YtdjdiiibcocmpaaGreatDoorRows
import Derived.Test.YtdjdiiibcocmpaaGreatDoorVe
import Derived.Test.YtdjdiiibcocmpaaGreatDoorLaid
import Derived.Test.YtdjdiiibcocmpaaGreatDoorLw
import Derived.ProofKit
import Derived.SizedLaws
import Derived.OpenShut
import Derived.Carry
import Derived.ChangeSlices
import Derived.Lay
import Derived.LaidOnce
import Derived.SevenTiedAt
import Derived.Stop.Joined
import Derived.PinnedBridge
import Derived.ChangeShapes
import Derived.Deep.Slices
import Derived.Lib.LaidTab
import Derived.Stop.LaidErr
namespace Go.Proofs.YtdjdiiibcocmpaaGreatDoor
open Go.ChangeShapes Go.WideShapes Go.ChangeAt Go.WideMaps Go.WideElems Go.RowKit Go.Deep
set_option maxRecDepth 1000000 in
theorem readR : Tryz.prog.readableRec 27 = true := by kernel_rfl
theorem rowR : 27 < Tryz.prog.types.size := of_decide_eq_true (by kernel_rfl)
set_option maxRecDepth 1000000 in
theorem contract {H : Type} {enc : TypeId × Value → H} (W : World) (args : Array Value) (ds gs : List (DataW H)) (before : List MemPlace)
    (hW : DataW.Whole enc Tryz.prog Tryz.f3.params.toList Rows.verifierLinesSpec.vars false W args.toList ds gs before) (hT : TabW W) :
    Calls Tryz.prog 3 args W fun e W' => ∃ v, e = .returned v ∧ Rows.verifierLinesSpec.post enc Tryz.prog Tryz.f3 false true false false W args v W' := by
  have hW' := hW
  obtain ⟨p, q, hA0, hV, rfl, _, _⟩ := hW
  have hA : DataW.TrodAll enc Tryz.prog W 0 (fun _ => true) true Tryz.f3.params.toList args.toList ds p := hA0
  rw [Tryz.params3] at hA
  obtain ⟨v0, d0, rfl, rfl, h0⟩ := trodAll_one hA
  obtain ⟨rfl, rfl⟩ := trodVars_none hV
  have h0k := h0
  obtain ⟨fuel, hf⟩ := h0
  clear hA0
  simp only [List.append_nil] at hW'
  have hlt : ∀ x ∈ p, x.block < W.heap.size := fun x hx => by simpa using hW'.lt x hx
  obtain ⟨s, v, fs, dd, ls, fa, fc, A, C, la, lc, hcs, hR⟩ := open_report hf
  obtain ⟨vs, rfl⟩ : ∃ vs, v0 = .agg vs := by
    have hl : v0.cells.toList.length = 8 := by rw [hcs]; rfl
    cases v0 <;> first | exact ⟨_, rfl⟩ | simp [Value.cells] at hl
  have hvs : vs = (repOf s v fs dd ls fa fc A C la lc).toArray := by
    have h1 : vs.toList = repOf s v fs dd ls fa fc A C la lc := hcs
    rw [← h1, Array.toArray_toList]
  rw [hvs] at hW' h0k ⊢
  exact (law_any s v fs dd ls fa fc A C la lc W.heap.size W hT hR (Nat.le_refl _)).mono fun e W' ⟨he, hnx⟩ => ⟨_, he, _, _, _, [], p, [], hW', trodAll_mk1 (shut_bool Tryz.underlying4 _),
    trodAll_mk1 (Below.trod laidOut readR rowR h0k hnx hlt), rfl, hnx.frame _, fun h => by cases h⟩
theorem own : ownKnob Tryz.prog.godebug = none := by kernel_rfl
theorem laidPlain : (Rows.verifierLinesRow.laid.all fun x => x.2.handleName?.isNone) = true := by kernel_rfl
theorem powEq : (Rows.laid_internal_strconv_uint64pow10 : DataW Unit) = Lib.tabData .u64 Lib.pow10Tab := by kernel_rfl
theorem tab_of_laid {w : World} (hL : laidMet Tryz.prog Rows.verifierLinesRow.laid w) : TabW w := by
  have h1 := hL.tail.tail
  unfold TabW
  refine Lib.tabIs_of_head (rest := _) (g := 0) (t := 779) (e := 602) (n := 20) glob_pow (by kernel_rfl) (by kernel_rfl) (by kernel_rfl) (by kernel_rfl) (by kernel_rfl) (powEq ▸ h1)
theorem noInit : Tryz.checked.prog.inits.idxOf? 3 = none := by kernel_rfl
theorem wOk (os : Os) : Input.okWideB Tryz.prog ((wX os).forCall (fun _ _ => 0) ⟨#[], zArgs, []⟩) 3 ⟨#[], zArgs, []⟩ = true := by kernel_rfl
theorem wPre (os : Os) (H : Type) (enc : TypeId × Value → H) : Rows.verifierLinesSpec.preB enc Tryz.prog Tryz.f3 [] false ((wX os).forCall (fun _ _ => 0) ⟨#[], zArgs, []⟩).memory zArgs 8 = true := by kernel_rfl
theorem wSized (os : Os) (H : Type) (enc : TypeId × Value → H) : Rows.verifierLinesSpec.sizedB enc Tryz.prog Tryz.f3 false ((wX os).forCall (fun _ _ => 0) ⟨#[], zArgs, []⟩).memory zArgs 8 = true := by kernel_rfl
set_option maxRecDepth 100000 in
theorem lifted (os : Os) (started : os.Started) (H : Type) (enc : TypeId × Value → H) :
    ReturnsInHanded {} Tryz.checked os 3 .any (fun w args => (Rows.verifierLinesSpec.pre enc Tryz.prog Tryz.f3 [] false w args ∧ laidMetH Tryz.prog Rows.verifierLinesRow.laid w) ∧ sizedMet enc Tryz.prog Tryz.f3 (OpenSpec.ofChange Rows.verifierLinesSpec) false w args)
      (Rows.verifierLinesSpec.post enc Tryz.prog Tryz.f3 false true false false) := by
  refine returnsInHanded_of_change_and (C := Tryz.checked) (X := fun w _ => laidMetH Tryz.prog Rows.verifierLinesRow.laid w) (fun _ _ _ hh h => h.of_heap hh) own started noInit Tryz.func3
    (ChangeSpec.witness_shaped (enc := enc) (C := Tryz.checked) (os := os) (X := fun w _ => laidMetH Tryz.prog Rows.verifierLinesRow.laid w) false (wX os) zArgs 8 (wOs os)
      (World.shaped_of_ZipB (wZip os) (wHeap os)) (wOk os) (wPre os H enc) (wSized os H enc)
      (by rw [MakeChecks.laidMetH_plain _ _ _ laidPlain]; exact wMet os)) ?_
  intro W base args ds gs before hval0 hW _ _ hL _
  refine contract W args ds gs before hW ?_
  rw [MakeChecks.laidMetH_plain _ _ _ laidPlain] at hL
  exact tab_of_laid hL
end Go.Proofs.YtdjdiiibcocmpaaGreatDoor
