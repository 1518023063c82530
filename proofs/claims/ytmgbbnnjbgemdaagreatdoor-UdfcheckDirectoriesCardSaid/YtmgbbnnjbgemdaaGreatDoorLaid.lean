/- Law 45, directories: the type table is laid out as the form asks. -/
import Derived.Test.YtmgbbnnjbgemdaaGreatDoorProg
import Derived.WalkKit
import Derived.KernelRfl
import GoSem.ClaimDataLaid
namespace Go.Proofs.YtmgbbnnjbgemdaaGreatDoor
open Go
theorem all_join (f : Nat → Bool) (a k m : Nat) (h1 : (List.range' a k).all f = true) (h2 : (List.range' (a + k) m).all f = true) : (List.range' a (k + m)).all f = true := by
  have e : List.range' a (k + m) = List.range' a k ++ List.range' (a + k) m := by simp
  rw [e, List.all_append, h1, h2]; rfl
theorem types_n : Tryz.prog.types.size = 672 := by kernel_rfl
theorem laid0 : (List.range' 0 120).all (rowFine Tryz.prog) = true := by kernel_rfl
theorem laid1 : (List.range' 120 120).all (rowFine Tryz.prog) = true := by kernel_rfl
theorem laid2 : (List.range' 240 120).all (rowFine Tryz.prog) = true := by kernel_rfl
theorem laid3 : (List.range' 360 120).all (rowFine Tryz.prog) = true := by kernel_rfl
theorem laid4 : (List.range' 480 120).all (rowFine Tryz.prog) = true := by kernel_rfl
theorem laid5 : (List.range' 600 72).all (rowFine Tryz.prog) = true := by kernel_rfl
theorem laidG : (Tryz.prog.globals.all (fun g => decide (g.type < Tryz.prog.types.size)) && Tryz.prog.funcs.all (fun f => f.params.all fun t => decide (t < Tryz.prog.types.size))) = true := by rw [types_n]; kernel_rfl
theorem laidOut : laidOutB Tryz.prog = true := by
  have h : (List.range' 0 672).all (rowFine Tryz.prog) = true := (all_join _ 0 120 552 laid0 (all_join _ 120 120 432 laid1 (all_join _ 240 120 312 laid2 (all_join _ 360 120 192 laid3 (all_join _ 480 120 72 laid4 laid5)))))
  unfold laidOutB
  rw [Bool.and_assoc, laidG, Bool.and_true, types_n, List.range_eq_range']
  exact h
end Go.Proofs.YtmgbbnnjbgemdaaGreatDoor
