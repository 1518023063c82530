/- Law 58, VerifierLines: the row's closed facts. Conditions: as each theorem says. -/
import Derived.Test.YtdjdiiibcocmpaaGreatDoorRows
import Derived.Test.YtdjdiiibcocmpaaGreatDoorJa
import Derived.JoinedOf
import Derived.Test.YtdjdiiibcocmpaaGreatDoorLaid
import Derived.ClosedOfChecked
import Derived.KernelRfl
import Derived.Test.YtdjdiiibcocmpaaGreatDoorJy
import GoSem.ClaimSeven
import GoSem.ClaimGoes
/- Law 58, VerifierLines: of the row's closed facts: what is answered in place; calls that are not followed; recursion; the package variables that are named. Conditions: none. -/
namespace Go.Proofs.YtdjdiiibcocmpaaGreatDoor
open Go
set_option maxRecDepth 1000000 in
theorem cellPlace : (Rows.verifierLinesRow.inPlace == Tryz.prog.inPlace 3) = true := by
  unfold Program.inPlace
  rw [clos, pl_tab]
  kernel_rfl
theorem witIn : closL.contains 65 = true := by kernel_rfl
theorem witGo : ((Tryz.prog.funcs[65]?).any fun fn => match fn.body with | some c => c.unfollowed | none => entryCalls fn) = true := by kernel_rfl
theorem unfollowedL : Tryz.prog.unfollowed 3 = true := by
  unfold Program.unfollowed
  rw [clos]
  exact List.any_eq_true.2 ⟨65, List.contains_iff_mem.1 witIn, witGo⟩
theorem cellUnfollowed : (Rows.verifierLinesRow.unfollowed == Tryz.prog.unfollowed 3) = true := by
  rw [unfollowedL]
  rfl
theorem cellRecurses : (Rows.verifierLinesRow.recurses == Tryz.prog.recurses 3) = true := by
  have h : Tryz.prog.recurses 3 = true := by
    unfold Program.recurses
    rw [unfollowedL, Bool.true_or]
  rw [h]
  rfl
set_option maxRecDepth 1000000 in
theorem cellNamed : (Rows.verifierLinesRow.named == Tryz.prog.varsNamed 3) = true := by
  unfold Program.varsNamed
  rw [clos, gl_tab, en_tab]
  kernel_rfl
end Go.Proofs.YtdjdiiibcocmpaaGreatDoor
/- Law 58, VerifierLines: of the row's closed facts: those of the whole program. -/
namespace Go.Proofs.YtdjdiiibcocmpaaGreatDoor
open Go
theorem cellLaid : laidOutB Tryz.prog = true := laidOut
theorem tabSame : Tryz.checked.prog.types = Tryz.checked.src.types := by kernel_rfl
theorem cellMaps : mapsRowed Tryz.prog = true := Go.ClosedOfChecked.mapsRowed_of (P := Tryz.checked.prog) (Go.ClosedOfChecked.allSpec_of Tryz.checked.wellFormed tabSame)
theorem cellStops : (Tryz.prog.stops == []) = true := by kernel_rfl
theorem cellKnobs : (Tryz.prog.stopKnobs == []) = true := by kernel_rfl
theorem cellPlain : (Rows.verifierLinesRow.plainKeys == Tryz.prog.plainKeys) = true := by kernel_rfl
theorem any_list {P : Program} {q : Func → Bool} {b : Bool} (h : P.funcs.toList.any q = b) : P.funcs.any q = b := by rw [← Array.any_toList]; exact h
theorem all_list {P : Program} {q : Func → Bool} {b : Bool} (h : P.funcs.toList.all q = b) : P.funcs.all q = b := by rw [← Array.all_toList]; exact h
theorem cellHeard : Tryz.prog.stopsHeard = true := by
  unfold Program.stopsHeard
  exact all_list (by kernel_rfl)
theorem noLater : Tryz.prog.laysLater = false := by
  unfold Program.laysLater
  exact any_list (by kernel_rfl)
theorem cellEnter : Tryz.prog.mayEnter = true := by
  unfold Program.mayEnter
  rw [noLater]
  kernel_rfl
theorem cellLifts : (Rows.verifierLinesRow.lifted == Tryz.prog.liftsFinal) = true := by kernel_rfl
theorem cellMake : (Tryz.prog.make == some Rows.verifierLinesRow.make) = true := by kernel_rfl
end Go.Proofs.YtdjdiiibcocmpaaGreatDoor
/- Law 58, VerifierLines: of the card's closed facts: a function of the program looks into a type by its name. Conditions: none. -/
namespace Go.Proofs.YtdjdiiibcocmpaaGreatDoor
open Go
theorem look_at : (!([] : List FuncId).contains 672 && (Tryz.prog.funcs[672]?).any fun fn => match fn.body with | some c => c.looks Tryz.prog | none => false) = true := by kernel_rfl
theorem looks_of (P : Program) (n g : Nat) (hn : P.funcs.size = n) (hg : g < n) (h : (!([] : List FuncId).contains g && (P.funcs[g]?).any fun fn => match fn.body with | some c => c.looks P | none => false) = true) : P.looks [] = true := by
  unfold Program.looks
  exact List.any_eq_true.2 ⟨g, List.mem_range.2 (by rw [hn]; exact hg), h⟩
theorem yesLooks : true = Tryz.prog.looks [] := (looks_of Tryz.prog 1053 672 size4 (by omega) look_at).symm
end Go.Proofs.YtdjdiiibcocmpaaGreatDoor
/- Law 58, VerifierLines: the row's closed facts together; no function has a go statement. -/

namespace Go.Proofs.YtdjdiiibcocmpaaGreatDoor
open Go
set_option maxRecDepth 1000000 in
theorem facts : joinedFacts Tryz.prog 3 Tryz.f3 Rows.verifierLinesSpec Rows.verifierLinesRow = true := by
  unfold joinedFacts
  simp only [Bool.and_eq_true]
  repeat' apply And.intro
  all_goals first
    | with_reducible exact cellPlace
    | with_reducible exact cellUnfollowed
    | with_reducible exact cellRecurses
    | with_reducible exact cellNamed
    | with_reducible exact cellLaid
    | with_reducible exact cellMaps
    | with_reducible exact cellStops
    | with_reducible exact cellKnobs
    | with_reducible exact cellPlain
    | with_reducible exact cellHeard
    | with_reducible exact cellEnter
    | with_reducible exact cellLifts
    | with_reducible exact cellMake
    | kernel_rfl
theorem goes_of_none {P : Program} (h : P.funcs.toList.any Func.goes = false) (f : FuncId) : P.goes f = false := by
  have h' : P.funcs.any Func.goes = false := by rw [← Array.any_toList]; exact h
  have one : ∀ g : FuncId, (P.funcs[g]?).any Func.goes = false := fun g => by
    cases hg : P.funcs[g]? with
    | none => rfl
    | some fn =>
      have hm : fn ∈ P.funcs.toList := Array.mem_toList_iff.2 (Array.mem_of_getElem? hg)
      simpa using (List.any_eq_false.1 h) fn hm
  unfold Program.goes
  rw [h', Bool.and_false, Bool.or_false, List.any_eq_false]
  intro g _
  simpa using one g
theorem goesBy_of_none {P : Program} {c : OpenClaim} (hs : c.start = .entering) (h : P.funcs.toList.any Func.goes = false) : false = c.goesBy P := by
  unfold OpenClaim.goesBy Program.goesAt Program.goesFrom
  rw [hs]
  cases hf : P.funcNamed c.func with
  | none => rfl
  | some f => simp [goes_of_none h f]
set_option maxRecDepth 1000000 in
theorem noGo : Tryz.prog.funcs.toList.any Func.goes = false := by kernel_rfl
end Go.Proofs.YtdjdiiibcocmpaaGreatDoor
