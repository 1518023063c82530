/- The law's example: awake() returns true in every world that holds the program's tables, whatever is drawn, and leaves all that was there as it was. -/
import Derived.Test.YtdjdiiibcocmpaaGreatDoorC03
import Derived.Test.YtdjdiiibcocmpaaGreatDoorC10
import Derived.Test.YtdjdiiibcocmpaaGreatDoorC17
import Derived.Test.YtdjdiiibcocmpaaGreatDoorC20
import Derived.Test.YtdjdiiibcocmpaaGreatDoorC27
namespace Go.Proofs.YtdjdiiibcocmpaaGreatDoor
open Go Go.Ev Go.Proofs
open Go.RowKit (Below)
set_option maxRecDepth 1000000 in
theorem run_awake : bc (callN pg X0 (addS (addS (addS S1 14 (ckS c423 c424 c451 c447)) 30 (orS (ckS c527 c605 c607 c606) (orS (ckS c527 c707 c607 c708) (ckS c527 c873 c875 c874)))) 17 (ckS c753 c755 c757 c756)) 200 (.func 4) [] E0 (memoK (.bool true))) true false = true := by kernel_rfl
theorem spec_awake (H : Hp) : FunSpec pg 4 [] H (.bool true) H := memo_spec (callN_sound hX (addS_sound (addS_sound (addS_sound hS1 (ckS_sound spec_c3)) (orS_sound (ckS_sound spec_c10) (orS_sound (ckS_sound spec_c17) (ckS_sound spec_c27)))) (ckS_sound spec_c20)) mixed 200) rfl (bcId run_awake) H
theorem awake_calls (w : World) (hg : Glob (fun b => b < w.heap.size) w) : Calls pg 4 #[] w fun e u => e = .returned (.bool true) ∧ Below w.heap.size w u := by
  have h := (spec_awake E0).2 (fun b => b < w.heap.size) w (fun _ => none) w [] rfl
    ⟨Nat.le_refl _, rfl, rfl, rfl, hg, fun b hb => ⟨hb, rfl⟩, fun id e he => (by cases he), fun id e he => (by cases he), fun i j a b ha => (by cases ha)⟩
  refine h.mono fun en u hp => ?_
  obtain ⟨x, rfl, τ, _, g2, g3⟩ := callPost_ret hp
  simp only [conc, Option.some.injEq] at g2
  exact ⟨by rw [← g2], g3.os, g3.tape, g3.output, g3.size, fun b hb => (g3.prot b hb).2⟩
end Go.Proofs.YtdjdiiibcocmpaaGreatDoor
