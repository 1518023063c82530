/- Law 45, UdfcheckDirectories: of the card's closed facts: no function looks into a type by its name, part by part. -/
import Derived.Test.YtmgbbnnjbgemdaaGreatDoorRows
import Derived.KernelRfl
import GoSem.ClaimSeven
namespace Go.Proofs.YtmgbbnnjbgemdaaGreatDoor
open Go
noncomputable def lookB (g : Nat) : Bool := ((Tryz.prog.funcs[g]?).bind (·.body)).any fun c => c.looks Tryz.prog
theorem sizeF : Tryz.prog.funcs.size = 685 := by kernel_rfl
theorem look0 : ((List.range' 0 84).all fun g => !lookB g) = true := by kernel_rfl
theorem look1 : ((List.range' 84 84).all fun g => !lookB g) = true := by kernel_rfl
theorem look2 : ((List.range' 168 84).all fun g => !lookB g) = true := by kernel_rfl
theorem look3 : ((List.range' 252 84).all fun g => !lookB g) = true := by kernel_rfl
theorem look4 : ((List.range' 336 84).all fun g => !lookB g) = true := by kernel_rfl
theorem look5 : ((List.range' 420 84).all fun g => !lookB g) = true := by kernel_rfl
theorem look6 : ((List.range' 504 84).all fun g => !lookB g) = true := by kernel_rfl
theorem look7 : ((List.range' 588 84).all fun g => !lookB g) = true := by kernel_rfl
theorem look8 : ((List.range' 672 13).all fun g => !lookB g) = true := by kernel_rfl
theorem look_part {a k g : Nat} (h : ((List.range' a k).all fun g => !lookB g) = true) (h1 : a ≤ g) (h2 : g < a + k) : lookB g = false := by
  have := List.all_eq_true.1 h g (List.mem_range'_1.2 ⟨h1, h2⟩)
  simpa using this
theorem look_none (g : Nat) (hg : g < 685) : lookB g = false := by
  rcases Nat.lt_or_ge g 84 with h0 | h0
  · exact look_part look0 (by omega) (by omega)
  rcases Nat.lt_or_ge g 168 with h1 | h1
  · exact look_part look1 (by omega) (by omega)
  rcases Nat.lt_or_ge g 252 with h2 | h2
  · exact look_part look2 (by omega) (by omega)
  rcases Nat.lt_or_ge g 336 with h3 | h3
  · exact look_part look3 (by omega) (by omega)
  rcases Nat.lt_or_ge g 420 with h4 | h4
  · exact look_part look4 (by omega) (by omega)
  rcases Nat.lt_or_ge g 504 with h5 | h5
  · exact look_part look5 (by omega) (by omega)
  rcases Nat.lt_or_ge g 588 with h6 | h6
  · exact look_part look6 (by omega) (by omega)
  rcases Nat.lt_or_ge g 672 with h7 | h7
  · exact look_part look7 (by omega) (by omega)
  exact look_part look8 (by omega) (by omega)
theorem noLooks : false = Tryz.prog.looks [] := by
  symm
  unfold Program.looks
  rw [List.any_eq_false]
  intro g hg
  have hl := look_none g (by have := List.mem_range.1 hg; rw [sizeF] at this; exact this)
  unfold lookB at hl
  cases hf : Tryz.prog.funcs[g]? with
  | none => simp
  | some fn =>
    rw [hf] at hl
    cases hb : fn.body with
    | none => simp [hb]
    | some c => simp [hb] at hl; simp [hb, hl]
end Go.Proofs.YtmgbbnnjbgemdaaGreatDoor
