/- Law 45, UdfcheckDirectories: for every string, slice of ints and int, in every world and for every tape, the law returns true and leaves its arguments as they were: the tied card. -/
import Derived.Test.YtmgbbnnjbgemdaaGreatDoorCards
import Derived.Test.YtmgbbnnjbgemdaaGreatDoorTf
import Derived.Test.YtmgbbnnjbgemdaaGreatDoorJd
import Derived.Test.YtmgbbnnjbgemdaaGreatDoorJf
import Derived.Test.YtmgbbnnjbgemdaaGreatDoorLa
import Derived.SevenTiedAt
namespace Go.Proofs.YtmgbbnnjbgemdaaGreatDoor
open Go.ChangeShapes Go.WideShapes Go.ChangeAt Go.WideMaps Go.WideElems Go.RowKit Go.Deep
theorem said : Rows.UdfcheckDirectoriesSaid :=
  OpenClaim.holds_of_wide 3 Tryz.f3 rfl rfl rfl rfl rfl rfl rfl ⟨rfl, rfl, rfl, rfl, rfl⟩ rfl rfl rfl rfl rfl (by kernel_rfl) Tryz.func3 facts
    (of_decide_eq_true (by kernel_rfl)) (by unfold Func.isWrapper; first | (rw [if_pos (by decide +kernel)]; kernel_rfl) | (rw [if_neg (by decide +kernel)]; exact ⟨rfl, rfl⟩))
    (fun os started H enc _ => lifted os started H enc)
theorem noStand (f : FuncId) (fn : Func) (hf : Tryz.pinned.checked.prog.funcNamed "masterdisc/masterdisclaw45.UdfcheckDirectories" = some f) (hfn : Tryz.pinned.checked.prog.funcs[f]? = some fn) :
    false = Tryz.pinned.checked.prog.looks [] ∧ ∀ (j : Nat) t, fn.params[j]? = some t → Tryz.pinned.checked.prog.wantsStandIn t = false := by
  obtain rfl : f = 3 := Option.some.inj ((show Tryz.prog.funcNamed "masterdisc/masterdisclaw45.UdfcheckDirectories" = some 3 by kernel_rfl).symm.trans hf) |>.symm
  obtain rfl : fn = Tryz.f3 := (Option.some.inj (Tryz.func3.symm.trans hfn)).symm
  refine ⟨noLooks, fun j t ht => ?_⟩
  rw [Tryz.params3] at ht
  have hm : t = 9 ∨ t = 22 ∨ t = 3 := by simpa using Array.mem_of_getElem? ht
  rcases hm with rfl | rfl | rfl
  · exact (show Tryz.prog.wantsStandIn 9 = false by kernel_rfl)
  · exact (show Tryz.prog.wantsStandIn 22 = false by kernel_rfl)
  · exact (show Tryz.prog.wantsStandIn 3 = false by kernel_rfl)
/-- The card. -/
theorem card : Rows.UdfcheckDirectoriesCardSaid :=
  Claim7.holds_tied_plain_at .later [] _ _ _ _ said (fun _ h => by cases h) (by kernel_rfl) (fun _ h => by cases h) udfcheckDirectories_row_tie rfl ⟨rfl, rfl⟩ (by kernel_rfl) rfl noStand (goesBy_of_none rfl noGo)
#print axioms card
end Go.Proofs.YtmgbbnnjbgemdaaGreatDoor
