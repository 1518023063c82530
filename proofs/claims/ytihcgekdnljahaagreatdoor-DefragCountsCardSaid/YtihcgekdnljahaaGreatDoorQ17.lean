/- Law 54, DefragCounts: a part of the proof. -/
import Derived.Test.YtihcgekdnljahaaGreatDoorCards
import Derived.Test.YtihcgekdnljahaaGreatDoorQ15
import Derived.Test.YtihcgekdnljahaaGreatDoorQ12
import Derived.Test.YtihcgekdnljahaaGreatDoorQ16
import Derived.SevenTiedAt
section
namespace Go.Proofs.YtihcgekdnljahaaGreatDoor
open Go.ChangeShapes Go.WideShapes Go.ChangeAt Go.WideMaps Go.WideElems Go.RowKit Go.Deep
theorem named54:Tryz.prog.funcNamed "masterdisc/masterdisclaw54.DefragCounts" = some 3:=funcNamed_at _ _ _ (by kernel_rfl)
theorem said:Rows.DefragCountsSaid:=
 OpenClaim.holds_of_wide 3 Tryz.f3 rfl rfl rfl rfl rfl rfl rfl ⟨rfl,rfl,rfl,rfl,rfl⟩ rfl rfl rfl rfl rfl named54 Tryz.func3 facts
  (of_decide_eq_true (by kernel_rfl)) (by unfold Func.isWrapper;first|(rw[if_pos (by decide +kernel)];kernel_rfl)|(rw[if_neg (by decide +kernel)];exact ⟨rfl,rfl⟩))
  (fun os started H enc _=>lifted os started H enc)
theorem noStand(f:FuncId)(fn:Func)(hf:Tryz.pinned.checked.prog.funcNamed "masterdisc/masterdisclaw54.DefragCounts" = some f)(hfn:Tryz.pinned.checked.prog.funcs[f]? =some fn):
 false=Tryz.pinned.checked.prog.looks []∧ ∀(j:Nat) t,fn.params[j]? =some t→Tryz.pinned.checked.prog.wantsStandIn t=false:=by
 obtain rfl:f=3:=Option.some.inj (named54.symm.trans hf) |>.symm
 obtain rfl:fn=Tryz.f3:=(Option.some.inj (Tryz.func3.symm.trans hfn)).symm
 refine ⟨noLooks,fun j t ht=>?_⟩
 rw[Tryz.params3] at ht
 have hm:t=22:=by simpa using Array.mem_of_getElem? ht
 subst hm
 exact (show Tryz.prog.wantsStandIn 22=false by kernel_rfl)
theorem card:Rows.DefragCountsCardSaid:=
 Claim7.holds_tied_plain_at .later [] _ _ _ _ said (fun _ h=>by cases h) (by kernel_rfl) (fun _ h=>by cases h) defragCounts_row_tie rfl ⟨rfl,rfl⟩ (by kernel_rfl) rfl noStand (goesBy_of_none rfl noGo)
#print axioms card
end Go.Proofs.YtihcgekdnljahaaGreatDoor
end
