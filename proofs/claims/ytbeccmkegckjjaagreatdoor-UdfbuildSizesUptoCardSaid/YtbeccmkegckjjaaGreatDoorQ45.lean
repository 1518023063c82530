/- Law 43, UdfbuildSizes: a part of the proof. -/
import Derived.Test.YtbeccmkegckjjaaGreatDoorQ43
import Derived.Test.YtbeccmkegckjjaaGreatDoorQ44
set_option linter.unusedVariables false
set_option linter.ambiguousOpen false
set_option linter.unusedSimpArgs false
section
namespace Go.Proofs.YtbeccmkegckjjaaGreatDoor
open Go Go.Ev Go.Proofs
open Go.RowKit (Below)
noncomputable section
def S2:Nat→Option Ev.Call:=fun f=>bc (Nat.beq f 6) (some (orS (orS (ckS ka0 kh0 kv0 kk0) (ckS ka1 kh1 kv1 kk1)) (orS (ckS ka2 kh2 kv2 kk2) (ckS ka3 kh3 kv3 kk3)))) (bc (Nat.beq f 9) (some (ckS ka4 kh4 kv4 kk4)) (S1 f))
end
theorem hS2:SSound pg S2:=fun f x hx args H k hk=>by
 unfold S2 at hx
 rw[bc_eq] at hx
 split at hx
 ·rename_i hf
  obtain rfl:=Option.some.inj hx
  obtain rfl:=Nat.eq_of_beq_eq_true hf
  exact orS_sound (orS_sound (ckS_sound spec_ck0) (ckS_sound spec_ck1)) (orS_sound (ckS_sound spec_ck2) (ckS_sound spec_ck3)) args H k hk
 ·rw[bc_eq] at hx
  split at hx
  ·rename_i hf
   obtain rfl:=Option.some.inj hx
   obtain rfl:=Nat.eq_of_beq_eq_true hf
   exact ckS_sound spec_ck4 args H k hk
  ·exact hS1 f x hx args H k hk
set_option maxRecDepth 1000000 in
theorem run_awake:bc (callN pg X0 S2 200 (.func 4) [] E0 (memoK (.bool true))) true false=true:=by kernel_rfl
theorem spec_awake(H:Hp):FunSpec pg 4 [] H (.bool true) H:=memo_spec (callN_sound hX hS2 mixed 200) rfl (bcId run_awake) H
theorem awake_calls(w:World):Calls pg 4 #[] w fun e u=>e= .returned (.bool true)∧Below w.heap.size w u:=by
 have h:=(spec_awake E0).2 (fun b=>b<w.heap.size) w (fun _=>none) w [] rfl
  ⟨Nat.le_refl _,rfl,rfl,rfl,fun x hx=>(by cases hx),fun b hb=>⟨hb,rfl⟩,fun id e he=>(by cases he),fun id e he=>(by cases he),fun i j a b ha=>(by cases ha)⟩
 refine h.mono fun en u hp=>?_
 obtain ⟨x,rfl,τ,_,g2,g3⟩:=callPost_ret hp
 simp only[conc,Option.some.injEq] at g2
 exact ⟨by rw[←g2],g3.os,g3.tape,g3.output,g3.size,fun b hb=>(g3.prot b hb).2⟩
end Go.Proofs.YtbeccmkegckjjaaGreatDoor
end
