/- Law 43, UdfbuildSizes: a part of the proof. -/
import Derived.Test.YtbeccmkegckjjaaGreatDoorProg
import GoSem.ClaimFn
import Derived.KernelRfl
import Derived.Test.YtbeccmkegckjjaaGreatDoorRows
import Derived.JoinedOf
import Derived.WalkKit
import GoSem.ClaimDataLaid
import GoSem.ClaimGoes
import GoSem.ClaimSeven
set_option linter.unusedVariables false
set_option linter.ambiguousOpen false
set_option linter.unusedSimpArgs false
section
namespace Go.Proofs.YtbeccmkegckjjaaGreatDoor
open Go
def nbs(P:Program)(f:FuncId):List FuncId:=(P.funcs[f]?).elim [] P.leadsTo
noncomputable def fastStep(P:Program)(ih:List Nat→Nat→List Nat→Option (List Nat))(todo:List Nat)(m:Nat)(seen:List Nat):Option (List Nat):=
 List.rec (motive:=fun _=>Option (List Nat)) (some seen.reverse) (fun f t _=>Bool.rec (motive:=fun _=>Option (List Nat)) (ih (nbs P f++t) (m ||| (1 <<< f)) (f::seen)) (ih t m seen) (m.testBit f)) todo
noncomputable def fastC(P:Program)(n:Nat):List Nat→Nat→List Nat→Option (List Nat):=
 Nat.rec (motive:=fun _=>List Nat→Nat→List Nat→Option (List Nat)) (fun _ _ _=>none) (fun _ ih=>fastStep P ih) n
theorem fastC_sound(P:Program): ∀(n:Nat) (todo:List Nat) (m:Nat) (seen r:List Nat),(∀g,m.testBit g=seen.contains g)→fastC P n todo m seen=some r→ ∀k,n≤k→P.closureVia k todo seen=r
 |0,_,_,_,_,_,h,_,_=>by cases h
 |n+1,[],m,seen,r,_,h,k,_=>by
  have e:some seen.reverse=some r:=h
  cases k with
  |zero=>unfold Program.closureVia;exact Option.some.inj e
  |succ k=>unfold Program.closureVia;exact Option.some.inj e
 |n+1,f::todo,m,seen,r,hm,h,k,hk=>by
  obtain ⟨k,rfl⟩: ∃k',k=k'+1:=⟨k-1,by omega⟩
  have h':(Bool.rec (motive:=fun _=>Option (List Nat)) (fastC P n (nbs P f++todo) (m ||| (1 <<< f)) (f::seen)) (fastC P n todo m seen) (m.testBit f))=some r:=h
  rw[hm f] at h'
  unfold Program.closureVia
  by_cases hc:seen.contains f=true
  ·rw[if_pos hc]
   rw[hc] at h'
   exact fastC_sound P n todo m seen r hm h' k (by omega)
  ·have hc':seen.contains f=false:=by simpa using hc
   rw[if_neg hc]
   rw[hc'] at h'
   refine fastC_sound P n (nbs P f++todo) (m ||| (1 <<< f)) (f::seen) r (fun g=>?_) h' k (by omega)
   rw[Nat.testBit_or,hm g,Nat.one_shiftLeft,Nat.testBit_two_pow,List.contains_cons,Bool.or_comm]
   congr 1
   by_cases hfg:f=g
   ·subst hfg;simp
   ·have: ¬g=f:=fun e=>hfg e.symm
    simp[hfg,this]
noncomputable def closL(n:Nat):List Nat:=(fastC Tryz.prog n [3] 0 []).getD []
noncomputable def someAt(n:Nat):Bool:=(fastC Tryz.prog n [3] 0 []).isSome
noncomputable def fuelAt(n:Nat):Bool:=Nat.ble n (1+(Tryz.prog.funcs.toList.map fun g=>(Tryz.prog.leadsTo g).length+1).sum)
theorem closure_of(n:Nat)(h1:someAt n=true)(h2:fuelAt n=true):Tryz.prog.closure 3=closL n:=by
 obtain ⟨r,hr⟩:=Option.isSome_iff_exists.1 h1
 unfold Program.closure closL
 rw[hr]
 exact fastC_sound Tryz.prog n [3] 0 [] r (fun g=>by simp) hr _ (Nat.le_of_ble_eq_true h2)
end Go.Proofs.YtbeccmkegckjjaaGreatDoor
end
section
namespace Go.Proofs.YtbeccmkegckjjaaGreatDoor
open Go
set_option maxRecDepth 1000000 in
theorem clos_some:someAt 1100=true:=by kernel_rfl
set_option maxRecDepth 1000000 in
theorem clos_fuel:fuelAt 1100=true:=by kernel_rfl
theorem clos:Tryz.prog.closure 3=closL 1100:=closure_of 1100 clos_some clos_fuel
end Go.Proofs.YtbeccmkegckjjaaGreatDoor
end
section
namespace Go.Proofs.YtbeccmkegckjjaaGreatDoor
open Go
set_option maxRecDepth 1000000 in
theorem cellPlace:(Rows.udfbuildSizesUptoRow.inPlace==Tryz.prog.inPlace 3)=true:=by
 unfold Program.inPlace
 rw[clos]
 kernel_rfl
set_option maxRecDepth 1000000 in
theorem unfollowedL:Tryz.prog.unfollowed 3=true:=by
 unfold Program.unfollowed
 rw[clos]
 kernel_rfl
theorem cellUnfollowed:(Rows.udfbuildSizesUptoRow.unfollowed==Tryz.prog.unfollowed 3)=true:=by
 rw[unfollowedL]
 rfl
theorem cellRecurses:(Rows.udfbuildSizesUptoRow.recurses==Tryz.prog.recurses 3)=true:=by
 have h:Tryz.prog.recurses 3=true:=by
  unfold Program.recurses
  rw[unfollowedL,Bool.true_or]
 rw[h]
 rfl
end Go.Proofs.YtbeccmkegckjjaaGreatDoor
end
section
namespace Go.Proofs.YtbeccmkegckjjaaGreatDoor
open Go
set_option maxRecDepth 1000000 in
theorem cellNamed:(Rows.udfbuildSizesUptoRow.named==Tryz.prog.varsNamed 3)=true:=by
 unfold Program.varsNamed
 rw[clos]
 kernel_rfl
end Go.Proofs.YtbeccmkegckjjaaGreatDoor
end
section
namespace Go.Proofs.YtbeccmkegckjjaaGreatDoor
open Go
theorem all_join(f:Nat→Bool)(a k m:Nat)(h1:(List.range' a k).all f=true)(h2:(List.range' (a+k) m).all f=true):(List.range' a (k+m)).all f=true:=by
 have e:List.range' a (k+m)=List.range' a k++List.range' (a+k) m:=by simp
 rw[e,List.all_append,h1,h2];rfl
theorem types_n:Tryz.prog.types.size=475:=by kernel_rfl
theorem laid0:(List.range' 0 120).all (rowFine Tryz.prog)=true:=by kernel_rfl
theorem laid1:(List.range' 120 120).all (rowFine Tryz.prog)=true:=by kernel_rfl
theorem laid2:(List.range' 240 120).all (rowFine Tryz.prog)=true:=by kernel_rfl
theorem laid3:(List.range' 360 115).all (rowFine Tryz.prog)=true:=by kernel_rfl
theorem laidG:(Tryz.prog.globals.all (fun g=>decide (g.type<Tryz.prog.types.size))&&Tryz.prog.funcs.all (fun f=>f.params.all fun t=>decide (t<Tryz.prog.types.size)))=true:=by rw[types_n];kernel_rfl
theorem laidOut:laidOutB Tryz.prog=true:=by
 have h:(List.range' 0 475).all (rowFine Tryz.prog)=true:=(all_join _ 0 120 355 laid0 (all_join _ 120 120 235 laid1 (all_join _ 240 120 115 laid2 laid3)))
 unfold laidOutB
 rw[Bool.and_assoc,laidG,Bool.and_true,types_n,List.range_eq_range']
 exact h
end Go.Proofs.YtbeccmkegckjjaaGreatDoor
end
section
namespace Go.Proofs.YtbeccmkegckjjaaGreatDoor
open Go
theorem cellLaid:laidOutB Tryz.prog=true:=laidOut
theorem cellMaps:mapsRowed Tryz.prog=true:=by kernel_rfl
theorem cellStops:(Tryz.prog.stops==[])=true:=by kernel_rfl
theorem cellKnobs:(Tryz.prog.stopKnobs==[])=true:=by kernel_rfl
theorem cellPlain:(Rows.udfbuildSizesUptoRow.plainKeys==Tryz.prog.plainKeys)=true:=by kernel_rfl
theorem cellHeard:Tryz.prog.stopsHeard=true:=by kernel_rfl
theorem cellEnter:Tryz.prog.mayEnter=true:=by kernel_rfl
theorem cellLifts:(Rows.udfbuildSizesUptoRow.lifted==Tryz.prog.liftsFinal)=true:=by kernel_rfl
theorem cellMake:(Tryz.prog.make==some Rows.udfbuildSizesUptoRow.make)=true:=by kernel_rfl
end Go.Proofs.YtbeccmkegckjjaaGreatDoor
end
section
namespace Go.Proofs.YtbeccmkegckjjaaGreatDoor
open Go
theorem facts:joinedFacts Tryz.prog 3 Tryz.f3 Rows.udfbuildSizesSpec Rows.udfbuildSizesUptoRow=true:=by
 unfold joinedFacts
 simp only[Bool.and_eq_true]
 repeat' apply And.intro
 all_goals first
  |with_reducible exact cellPlace
  |with_reducible exact cellUnfollowed
  |with_reducible exact cellRecurses
  |with_reducible exact cellNamed
  |with_reducible exact cellLaid
  |with_reducible exact cellMaps
  |with_reducible exact cellStops
  |with_reducible exact cellKnobs
  |with_reducible exact cellPlain
  |with_reducible exact cellHeard
  |with_reducible exact cellEnter
  |with_reducible exact cellLifts
  |with_reducible exact cellMake
  |kernel_rfl
theorem goes_of_none{P:Program}(h:P.funcs.toList.any Func.goes=false)(f:FuncId):P.goes f=false:=by
 have h':P.funcs.any Func.goes=false:=by rw[←Array.any_toList];exact h
 have one: ∀g:FuncId,(P.funcs[g]?).any Func.goes=false:=fun g=>by
  cases hg:P.funcs[g]? with
  |none=>rfl
  |some fn=>
   have hm:fn∈P.funcs.toList:=Array.mem_toList_iff.2 (Array.mem_of_getElem? hg)
   simpa using (List.any_eq_false.1 h) fn hm
 unfold Program.goes
 rw[h',Bool.and_false,Bool.or_false,List.any_eq_false]
 intro g _
 simpa using one g
theorem goesBy_of_none{P:Program}{c:OpenClaim}(hs:c.start= .entering)(h:P.funcs.toList.any Func.goes=false):false=c.goesBy P:=by
 unfold OpenClaim.goesBy Program.goesAt Program.goesFrom
 rw[hs]
 cases hf:P.funcNamed c.func with
 |none=>rfl
 |some f=>simp[goes_of_none h f]
set_option maxRecDepth 1000000 in
theorem noGo:Tryz.prog.funcs.toList.any Func.goes=false:=by kernel_rfl
end Go.Proofs.YtbeccmkegckjjaaGreatDoor
end
section
namespace Go.Proofs.YtbeccmkegckjjaaGreatDoor
open Go
noncomputable def lookB(g:Nat):Bool:=((Tryz.prog.funcs[g]?).bind (·.body)).any fun c=>c.looks Tryz.prog
theorem sizeF:Tryz.prog.funcs.size=480:=by kernel_rfl
theorem look0:((List.range' 0 84).all fun g=>!lookB g)=true:=by kernel_rfl
theorem look1:((List.range' 84 84).all fun g=>!lookB g)=true:=by kernel_rfl
theorem look2:((List.range' 168 84).all fun g=>!lookB g)=true:=by kernel_rfl
theorem look3:((List.range' 252 84).all fun g=>!lookB g)=true:=by kernel_rfl
theorem look4:((List.range' 336 84).all fun g=>!lookB g)=true:=by kernel_rfl
theorem look5:((List.range' 420 60).all fun g=>!lookB g)=true:=by kernel_rfl
theorem look_part{a k g:Nat}(h:((List.range' a k).all fun g=>!lookB g)=true)(h1:a≤g)(h2:g<a+k):lookB g=false:=by
 have:=List.all_eq_true.1 h g (List.mem_range'_1.2 ⟨h1,h2⟩)
 simpa using this
theorem look_none(g:Nat)(hg:g<480):lookB g=false:=by
 rcases Nat.lt_or_ge g 84 with h0|h0
 ·exact look_part look0 (by omega) (by omega)
 rcases Nat.lt_or_ge g 168 with h1|h1
 ·exact look_part look1 (by omega) (by omega)
 rcases Nat.lt_or_ge g 252 with h2|h2
 ·exact look_part look2 (by omega) (by omega)
 rcases Nat.lt_or_ge g 336 with h3|h3
 ·exact look_part look3 (by omega) (by omega)
 rcases Nat.lt_or_ge g 420 with h4|h4
 ·exact look_part look4 (by omega) (by omega)
 exact look_part look5 (by omega) (by omega)
theorem noLooks:false=Tryz.prog.looks []:=by
 symm
 unfold Program.looks
 rw[List.any_eq_false]
 intro g hg
 have hl:=look_none g (by have:=List.mem_range.1 hg;rw[sizeF] at this;exact this)
 unfold lookB at hl
 cases hf:Tryz.prog.funcs[g]? with
 |none=>simp
 |some fn=>
  rw[hf] at hl
  cases hb:fn.body with
  |none=>simp[hb]
  |some c=>simp[hb] at hl;simp[hb,hl]
end Go.Proofs.YtbeccmkegckjjaaGreatDoor
end
