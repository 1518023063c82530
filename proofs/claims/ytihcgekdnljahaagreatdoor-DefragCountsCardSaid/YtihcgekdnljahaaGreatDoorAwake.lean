/- The law's example: awake() returns true in every world that holds the program's tables, whatever is drawn, and leaves all that was there as it was. -/
import Derived.Test.YtihcgekdnljahaaGreatDoorC00
import Derived.Test.YtihcgekdnljahaaGreatDoorC01
import Derived.Test.YtihcgekdnljahaaGreatDoorC12
import Derived.Test.YtihcgekdnljahaaGreatDoorC16
import Derived.Test.YtihcgekdnljahaaGreatDoorC18
namespace Go.Proofs.YtihcgekdnljahaaGreatDoor
open Go Go.Ev Go.Proofs
open Go.RowKit (Below)
open K in
set_option maxRecDepth 1000000 in
theorem run_awake : bc (callN pg X0 (addS (addS (addS (addS (addS S1 8 (ckS B1k D0C D0E D0D)) 10 (orS (ckS B1k D0F B6 B1n) (orS (ckS E7F E7J B6 B4Z) (ckS F4X F4Y B0 F4Z)))) 12 (ckS E63 B1n E66 E65)) 29 (ckS E7A E7B E7E E7D)) 15 (ckS F4U B4Z F4W F4V)) 200 (.func 4) [] E0 (memoK (.bool true))) true false = true := by kernel_rfl
theorem spec_awake (H : Hp) : FunSpec pg 4 [] H (.bool true) H := memo_spec (callN_sound hX (addS_sound (addS_sound (addS_sound (addS_sound (addS_sound hS1 (ckS_sound spec_0)) (orS_sound (ckS_sound spec_1) (orS_sound (ckS_sound spec_39) (ckS_sound spec_53)))) (ckS_sound spec_30)) (ckS_sound spec_38)) (ckS_sound spec_52)) mixed 200) rfl (bcId run_awake) H
theorem awake_calls (w : World) (hg : Glob (fun b => b < w.heap.size) w) : Calls pg 4 #[] w fun e u => e = .returned (.bool true) ∧ Below w.heap.size w u := by
  have h := (spec_awake E0).2 (fun b => b < w.heap.size) w (fun _ => none) w [] rfl
    ⟨Nat.le_refl _, rfl, rfl, rfl, hg, fun b hb => ⟨hb, rfl⟩, fun id e he => (by cases he), fun id e he => (by cases he), fun i j a b ha => (by cases ha)⟩
  refine h.mono fun en u hp => ?_
  obtain ⟨x, rfl, τ, _, g2, g3⟩ := callPost_ret hp
  simp only [conc, Option.some.injEq] at g2
  exact ⟨by rw [← g2], g3.os, g3.tape, g3.output, g3.size, fun b hb => (g3.prot b hb).2⟩
end Go.Proofs.YtihcgekdnljahaaGreatDoor
