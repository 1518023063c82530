/- Law 45, UdfcheckDirectories: of the row's closed facts: what is answered in place; calls that are not followed; recursion. -/
import Derived.Test.YtmgbbnnjbgemdaaGreatDoorJa
namespace Go.Proofs.YtmgbbnnjbgemdaaGreatDoor
open Go
set_option maxRecDepth 1000000 in
theorem cellPlace : (Rows.udfcheckDirectoriesRow.inPlace == Tryz.prog.inPlace 3) = true := by
  unfold Program.inPlace
  rw [clos]
  kernel_rfl
set_option maxRecDepth 1000000 in
theorem unfollowedL : Tryz.prog.unfollowed 3 = true := by
  unfold Program.unfollowed
  rw [clos]
  kernel_rfl
theorem cellUnfollowed : (Rows.udfcheckDirectoriesRow.unfollowed == Tryz.prog.unfollowed 3) = true := by
  rw [unfollowedL]
  rfl
theorem cellRecurses : (Rows.udfcheckDirectoriesRow.recurses == Tryz.prog.recurses 3) = true := by
  have h : Tryz.prog.recurses 3 = true := by
    unfold Program.recurses
    rw [unfollowedL, Bool.true_or]
  rw [h]
  rfl
end Go.Proofs.YtmgbbnnjbgemdaaGreatDoor
