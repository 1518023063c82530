/- Law 45, UdfcheckOverlaps: of the row's closed facts: what is answered in place; calls that are not followed; recursion. -/
import Derived.Test.YtdefgejneknmgaaGreatDoorJa
namespace Go.Proofs.YtdefgejneknmgaaGreatDoor
open Go
set_option maxRecDepth 1000000 in
theorem cellPlace : (Rows.udfcheckOverlapsRow.inPlace == Tryz.prog.inPlace 3) = true := by
  unfold Program.inPlace
  rw [clos]
  kernel_rfl
set_option maxRecDepth 1000000 in
theorem unfollowed3 : Tryz.prog.unfollowed 3 = true := by
  unfold Program.unfollowed
  rw [clos]
  kernel_rfl
theorem cellUnfollowed : (Rows.udfcheckOverlapsRow.unfollowed == Tryz.prog.unfollowed 3) = true := by
  rw [unfollowed3]
  rfl
theorem cellRecurses : (Rows.udfcheckOverlapsRow.recurses == Tryz.prog.recurses 3) = true := by
  have h : Tryz.prog.recurses 3 = true := by
    unfold Program.recurses
    rw [unfollowed3, Bool.true_or]
  rw [h]
  rfl
end Go.Proofs.YtdefgejneknmgaaGreatDoor
