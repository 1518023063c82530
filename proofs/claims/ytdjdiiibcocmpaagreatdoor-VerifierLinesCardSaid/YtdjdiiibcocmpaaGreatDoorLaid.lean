/- Law 58, VerifierLines: the type table is laid out as the form asks. -/
import Derived.Test.YtdjdiiibcocmpaaGreatDoorProg
import Derived.WalkKit
import Derived.KernelRfl
import GoSem.ClaimDataLaid
namespace Go.Proofs.YtdjdiiibcocmpaaGreatDoor
open Go
theorem all_join (f : Nat → Bool) (a k m : Nat) (h1 : (List.range' a k).all f = true) (h2 : (List.range' (a + k) m).all f = true) : (List.range' a (k + m)).all f = true := by
  have e : List.range' a (k + m) = List.range' a k ++ List.range' (a + k) m := by simp
  rw [e, List.all_append, h1, h2]; rfl
theorem types_n : Tryz.prog.types.size = 1047 := by kernel_rfl
theorem laid0 : (List.range' 0 120).all (rowFine Tryz.prog) = true := by kernel_rfl
theorem laid1 : (List.range' 120 120).all (rowFine Tryz.prog) = true := by kernel_rfl
theorem laid2 : (List.range' 240 120).all (rowFine Tryz.prog) = true := by kernel_rfl
theorem laid3 : (List.range' 360 120).all (rowFine Tryz.prog) = true := by kernel_rfl
theorem laid4 : (List.range' 480 120).all (rowFine Tryz.prog) = true := by kernel_rfl
theorem laid5 : (List.range' 600 120).all (rowFine Tryz.prog) = true := by kernel_rfl
theorem laid6 : (List.range' 720 120).all (rowFine Tryz.prog) = true := by kernel_rfl
theorem laid7 : (List.range' 840 120).all (rowFine Tryz.prog) = true := by kernel_rfl
theorem laid8 : (List.range' 960 87).all (rowFine Tryz.prog) = true := by kernel_rfl
noncomputable def parB (g : Nat) : Bool := (((Tryz.prog.funcs[g]?).map (·.params)).elim true fun ps => ps.all fun t => decide (t < 1047))
theorem funcs_n : Tryz.prog.funcs.size = 1053 := by kernel_rfl
theorem laidV : (Tryz.prog.globals.all (fun g => decide (g.type < 1047))) = true := by kernel_rfl
theorem par0 : ((List.range' 0 84).all parB) = true := by kernel_rfl
theorem par1 : ((List.range' 84 84).all parB) = true := by kernel_rfl
theorem par2 : ((List.range' 168 84).all parB) = true := by kernel_rfl
theorem par3 : ((List.range' 252 84).all parB) = true := by kernel_rfl
theorem par4 : ((List.range' 336 84).all parB) = true := by kernel_rfl
theorem par5 : ((List.range' 420 84).all parB) = true := by kernel_rfl
theorem par6 : ((List.range' 504 84).all parB) = true := by kernel_rfl
theorem par7 : ((List.range' 588 84).all parB) = true := by kernel_rfl
theorem par8 : ((List.range' 672 84).all parB) = true := by kernel_rfl
theorem par9 : ((List.range' 756 84).all parB) = true := by kernel_rfl
theorem par10 : ((List.range' 840 84).all parB) = true := by kernel_rfl
theorem par11 : ((List.range' 924 84).all parB) = true := by kernel_rfl
theorem par12 : ((List.range' 1008 45).all parB) = true := by kernel_rfl
theorem par_part {a k g : Nat} (h : ((List.range' a k).all parB) = true) (h1 : a ≤ g) (h2 : g < a + k) : parB g = true := List.all_eq_true.1 h g (List.mem_range'_1.2 ⟨h1, h2⟩)
theorem par_all (g : Nat) (hg : g < 1053) : parB g = true := by
  rcases Nat.lt_or_ge g 84 with h0 | h0
  · exact par_part par0 (by omega) (by omega)
  rcases Nat.lt_or_ge g 168 with h1 | h1
  · exact par_part par1 (by omega) (by omega)
  rcases Nat.lt_or_ge g 252 with h2 | h2
  · exact par_part par2 (by omega) (by omega)
  rcases Nat.lt_or_ge g 336 with h3 | h3
  · exact par_part par3 (by omega) (by omega)
  rcases Nat.lt_or_ge g 420 with h4 | h4
  · exact par_part par4 (by omega) (by omega)
  rcases Nat.lt_or_ge g 504 with h5 | h5
  · exact par_part par5 (by omega) (by omega)
  rcases Nat.lt_or_ge g 588 with h6 | h6
  · exact par_part par6 (by omega) (by omega)
  rcases Nat.lt_or_ge g 672 with h7 | h7
  · exact par_part par7 (by omega) (by omega)
  rcases Nat.lt_or_ge g 756 with h8 | h8
  · exact par_part par8 (by omega) (by omega)
  rcases Nat.lt_or_ge g 840 with h9 | h9
  · exact par_part par9 (by omega) (by omega)
  rcases Nat.lt_or_ge g 924 with h10 | h10
  · exact par_part par10 (by omega) (by omega)
  rcases Nat.lt_or_ge g 1008 with h11 | h11
  · exact par_part par11 (by omega) (by omega)
  exact par_part par12 (by omega) (by omega)
theorem laidF : (Tryz.prog.funcs.all (fun f => f.params.all fun t => decide (t < 1047))) = true := by
  rw [Array.all_eq_true]
  intro i hi
  have h := par_all i (by rw [← funcs_n]; exact hi)
  unfold parB at h
  rw [Array.getElem?_eq_getElem hi] at h
  exact h
theorem laidG : (Tryz.prog.globals.all (fun g => decide (g.type < Tryz.prog.types.size)) && Tryz.prog.funcs.all (fun f => f.params.all fun t => decide (t < Tryz.prog.types.size))) = true := by
  rw [types_n, laidV, laidF]
  rfl
theorem laidOut : laidOutB Tryz.prog = true := by
  have h : (List.range' 0 1047).all (rowFine Tryz.prog) = true := (all_join _ 0 120 927 laid0 (all_join _ 120 120 807 laid1 (all_join _ 240 120 687 laid2 (all_join _ 360 120 567 laid3 (all_join _ 480 120 447 laid4 (all_join _ 600 120 327 laid5 (all_join _ 720 120 207 laid6 (all_join _ 840 120 87 laid7 laid8))))))))
  unfold laidOutB
  rw [Bool.and_assoc, laidG, Bool.and_true, types_n, List.range_eq_range']
  exact h
end Go.Proofs.YtdjdiiibcocmpaaGreatDoor
