/- Law 45, UdfcheckDirectories: the row's closed facts together; no function has a go statement. -/
import Derived.Test.YtmgbbnnjbgemdaaGreatDoorJb
import Derived.Test.YtmgbbnnjbgemdaaGreatDoorJc
import Derived.Test.YtmgbbnnjbgemdaaGreatDoorJe
import GoSem.ClaimGoes
namespace Go.Proofs.YtmgbbnnjbgemdaaGreatDoor
open Go
theorem facts : joinedFacts Tryz.prog 3 Tryz.f3 Rows.udfcheckDirectoriesSpec Rows.udfcheckDirectoriesRow = true := by
  unfold joinedFacts
  simp only [Bool.and_eq_true]
  repeat' apply And.intro
  all_goals first
    | with_reducible exact cellPlace
    | with_reducible exact cellUnfollowed
    | with_reducible exact cellRecurses
    | with_reducible exact cellNamed
    | with_reducible exact cellLaid
    | with_reducible exact cellMaps
    | with_reducible exact cellStops
    | with_reducible exact cellKnobs
    | with_reducible exact cellPlain
    | with_reducible exact cellHeard
    | with_reducible exact cellEnter
    | with_reducible exact cellLifts
    | with_reducible exact cellMake
    | kernel_rfl
theorem goes_of_none {P : Program} (h : P.funcs.toList.any Func.goes = false) (f : FuncId) : P.goes f = false := by
  have h' : P.funcs.any Func.goes = false := by rw [← Array.any_toList]; exact h
  have one : ∀ g : FuncId, (P.funcs[g]?).any Func.goes = false := fun g => by
    cases hg : P.funcs[g]? with
    | none => rfl
    | some fn =>
      have hm : fn ∈ P.funcs.toList := Array.mem_toList_iff.2 (Array.mem_of_getElem? hg)
      simpa using (List.any_eq_false.1 h) fn hm
  unfold Program.goes
  rw [h', Bool.and_false, Bool.or_false, List.any_eq_false]
  intro g _
  simpa using one g
theorem goesBy_of_none {P : Program} {c : OpenClaim} (hs : c.start = .entering) (h : P.funcs.toList.any Func.goes = false) : false = c.goesBy P := by
  unfold OpenClaim.goesBy Program.goesAt Program.goesFrom
  rw [hs]
  cases hf : P.funcNamed c.func with
  | none => rfl
  | some f => simp [goes_of_none h f]
set_option maxRecDepth 1000000 in
theorem noGo : Tryz.prog.funcs.toList.any Func.goes = false := by kernel_rfl
end Go.Proofs.YtmgbbnnjbgemdaaGreatDoor
