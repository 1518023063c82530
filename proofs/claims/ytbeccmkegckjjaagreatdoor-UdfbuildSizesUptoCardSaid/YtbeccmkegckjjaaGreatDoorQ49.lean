/- Law 43, UdfbuildSizes: a part of the proof. -/
import Derived.Test.YtbeccmkegckjjaaGreatDoorCards
import Derived.Test.YtbeccmkegckjjaaGreatDoorTie
import Derived.Test.YtbeccmkegckjjaaGreatDoorQ01
import Derived.Test.YtbeccmkegckjjaaGreatDoorQ48
import Derived.SevenTiedAt
section
namespace Go.Proofs.YtbeccmkegckjjaaGreatDoor
open Go.ChangeShapes Go.WideShapes Go.ChangeAt Go.WideMaps Go.WideElems Go.RowKit Go.Deep
set_option maxRecDepth 20000 in
theorem said:Rows.UdfbuildSizesUptoSaid:=
 OpenClaim.holds_of_cond (s:=Rows.OpenSpec.upto Rows.udfbuildSizesSpec) 3 Tryz.f3 rfl rfl rfl rfl rfl rfl rfl ⟨rfl,rfl,rfl,rfl,rfl⟩ rfl rfl rfl rfl rfl (by kernel_rfl) Tryz.func3 facts
  (of_decide_eq_true (by kernel_rfl)) (by unfold Func.isWrapper;first|(rw[if_pos (by decide +kernel)];kernel_rfl)|(rw[if_neg (by decide +kernel)];exact ⟨rfl,rfl⟩))
  (fun os started H enc _ _=>lifted os started H enc)
theorem noStand(f:FuncId)(fn:Func)(hf:Tryz.pinned.checked.prog.funcNamed "masterdisc/masterdisclaw43.UdfbuildSizes" = some f)(hfn:Tryz.pinned.checked.prog.funcs[f]? =some fn):
 false=Tryz.pinned.checked.prog.looks []∧ ∀(j:Nat) t,fn.params[j]? =some t→Tryz.pinned.checked.prog.wantsStandIn t=false:=by
 obtain rfl:f=3:=Option.some.inj ((show Tryz.prog.funcNamed "masterdisc/masterdisclaw43.UdfbuildSizes" = some 3 by kernel_rfl).symm.trans hf) |>.symm
 obtain rfl:fn=Tryz.f3:=(Option.some.inj (Tryz.func3.symm.trans hfn)).symm
 refine ⟨noLooks,fun j t ht=>?_⟩
 rw[Tryz.params3] at ht
 have hm:t=25∨t=3:=by simpa using Array.mem_of_getElem? ht
 rcases hm with rfl|rfl
 ·exact (show Tryz.prog.wantsStandIn 25=false by kernel_rfl)
 ·exact (show Tryz.prog.wantsStandIn 3=false by kernel_rfl)
theorem card:Rows.UdfbuildSizesUptoCardSaid:=
 Claim7.holds_tied_plain_at .later [] _ _ _ _ said (fun _ h=>by cases h) (by kernel_rfl) (fun _ h=>by cases h) udfbuildSizesUpto_row_tie rfl ⟨rfl,rfl⟩ (by kernel_rfl) rfl noStand (goesBy_of_none rfl noGo)
#print axioms card
end Go.Proofs.YtbeccmkegckjjaaGreatDoor
end
