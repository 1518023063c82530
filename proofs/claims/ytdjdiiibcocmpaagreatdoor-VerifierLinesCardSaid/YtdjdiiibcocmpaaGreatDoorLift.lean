/- Law 58, VerifierLines: for every report, in every world and for every tape, the law returns true and leaves its arguments as they were: the tied card. -/
import Derived.Test.YtdjdiiibcocmpaaGreatDoorCards
import Derived.Test.YtdjdiiibcocmpaaGreatDoorTf
import Derived.Test.YtdjdiiibcocmpaaGreatDoorJx
import Derived.Test.YtdjdiiibcocmpaaGreatDoorJx
import Derived.Test.YtdjdiiibcocmpaaGreatDoorLa
import Derived.SevenTiedAt
namespace Go.Proofs.YtdjdiiibcocmpaaGreatDoor
open Go.ChangeShapes Go.WideShapes Go.ChangeAt Go.WideMaps Go.WideElems Go.RowKit Go.Deep
theorem named58 : Tryz.prog.funcNamed "masterdisc/masterdisclaw58.VerifierLines" = some 3 := funcNamed_at _ _ _ (by kernel_rfl)
theorem said : Rows.VerifierLinesSaid :=
  OpenClaim.holds_of_wide 3 Tryz.f3 rfl rfl rfl rfl rfl rfl rfl ⟨rfl, rfl, rfl, rfl, rfl⟩ rfl rfl rfl rfl rfl named58 Tryz.func3 facts
    (of_decide_eq_true (by kernel_rfl)) (by unfold Func.isWrapper; first | (rw [if_pos (by decide +kernel)]; kernel_rfl) | (rw [if_neg (by decide +kernel)]; exact ⟨rfl, rfl⟩))
    (fun os started H enc _ => lifted os started H enc)
theorem noStand (f : FuncId) (fn : Func) (hf : Tryz.pinned.checked.prog.funcNamed "masterdisc/masterdisclaw58.VerifierLines" = some f) (hfn : Tryz.pinned.checked.prog.funcs[f]? = some fn) :
    true = Tryz.pinned.checked.prog.looks [] ∧ ∀ (j : Nat) t, fn.params[j]? = some t → Tryz.pinned.checked.prog.wantsStandIn t = false := by
  obtain rfl : f = 3 := Option.some.inj (named58.symm.trans hf) |>.symm
  obtain rfl : fn = Tryz.f3 := (Option.some.inj (Tryz.func3.symm.trans hfn)).symm
  refine ⟨yesLooks, fun j t ht => ?_⟩
  rw [Tryz.params3] at ht
  have hm : t = 27 := by simpa using Array.mem_of_getElem? ht
  subst hm
  exact (show Tryz.prog.wantsStandIn 27 = false by kernel_rfl)
/-- The card. -/
theorem card : Rows.VerifierLinesCardSaid :=
  Claim7.holds_tied_plain_at .later [] _ _ _ _ said (fun _ h => by cases h) (by kernel_rfl) (fun _ h => by cases h) verifierLines_row_tie rfl ⟨rfl, rfl⟩ (by kernel_rfl) rfl noStand (goesBy_of_none rfl noGo)
#print axioms card
end Go.Proofs.YtdjdiiibcocmpaaGreatDoor
