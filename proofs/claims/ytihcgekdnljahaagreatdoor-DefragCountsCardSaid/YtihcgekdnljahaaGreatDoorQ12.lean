/- Law 54, DefragCounts: a part of the proof. -/
import Derived.Test.YtihcgekdnljahaaGreatDoorRows
import Derived.Test.YtihcgekdnljahaaGreatDoorQ11
import Derived.JoinedOf
import Derived.Test.YtihcgekdnljahaaGreatDoorProg
import Derived.WalkKit
import Derived.KernelRfl
import GoSem.ClaimDataLaid
import Derived.ClosedOfChecked
import GoSem.ClaimSeven
import GoSem.ClaimGoes
section
namespace Go.Proofs.YtihcgekdnljahaaGreatDoor
open Go
set_option maxRecDepth 1000000 in
theorem cellPlace:(Rows.defragCountsRow.inPlace==Tryz.prog.inPlace 3)=true:=by
 unfold Program.inPlace
 rw[clos,pl_tab]
 kernel_rfl
theorem witIn:closL.contains 8=true:=by kernel_rfl
theorem witGo:((Tryz.prog.funcs[8]?).any fun fn=>match fn.body with|some c=>c.unfollowed|none=>entryCalls fn)=true:=by kernel_rfl
theorem unfollowedL:Tryz.prog.unfollowed 3=true:=by
 unfold Program.unfollowed
 rw[clos]
 exact List.any_eq_true.2 ⟨8,List.contains_iff_mem.1 witIn,witGo⟩
theorem cellUnfollowed:(Rows.defragCountsRow.unfollowed==Tryz.prog.unfollowed 3)=true:=by
 rw[unfollowedL]
 rfl
theorem cellRecurses:(Rows.defragCountsRow.recurses==Tryz.prog.recurses 3)=true:=by
 have h:Tryz.prog.recurses 3=true:=by
  unfold Program.recurses
  rw[unfollowedL,Bool.true_or]
 rw[h]
 rfl
set_option maxRecDepth 1000000 in
theorem cellNamed:(Rows.defragCountsRow.named==Tryz.prog.varsNamed 3)=true:=by
 unfold Program.varsNamed
 rw[clos,gl_tab,en_tab]
 kernel_rfl
end Go.Proofs.YtihcgekdnljahaaGreatDoor
end
section
namespace Go.Proofs.YtihcgekdnljahaaGreatDoor
open Go
theorem all_join(f:Nat→Bool)(a k m:Nat)(h1:(List.range' a k).all f=true)(h2:(List.range' (a+k) m).all f=true):(List.range' a (k+m)).all f=true:=by
 have e:List.range' a (k+m)=List.range' a k++List.range' (a+k) m:=by simp
 rw[e,List.all_append,h1,h2];rfl
theorem types_n:Tryz.prog.types.size=880:=by kernel_rfl
theorem laid0:(List.range' 0 110).all (rowFine Tryz.prog)=true:=by kernel_rfl
theorem laid1:(List.range' 110 110).all (rowFine Tryz.prog)=true:=by kernel_rfl
theorem laid2:(List.range' 220 110).all (rowFine Tryz.prog)=true:=by kernel_rfl
theorem laid3:(List.range' 330 110).all (rowFine Tryz.prog)=true:=by kernel_rfl
theorem laid4:(List.range' 440 110).all (rowFine Tryz.prog)=true:=by kernel_rfl
theorem laid5:(List.range' 550 110).all (rowFine Tryz.prog)=true:=by kernel_rfl
theorem laid6:(List.range' 660 110).all (rowFine Tryz.prog)=true:=by kernel_rfl
theorem laid7:(List.range' 770 110).all (rowFine Tryz.prog)=true:=by kernel_rfl
noncomputable def parB(g:Nat):Bool:=(((Tryz.prog.funcs[g]?).map (·.params)).elim true fun ps=>ps.all fun t=>decide (t<880))
theorem funcs_n:Tryz.prog.funcs.size=942:=by kernel_rfl
theorem laidV:(Tryz.prog.globals.all (fun g=>decide (g.type<880)))=true:=by kernel_rfl
theorem par0:((List.range' 0 84).all parB)=true:=by kernel_rfl
theorem par1:((List.range' 84 84).all parB)=true:=by kernel_rfl
theorem par2:((List.range' 168 84).all parB)=true:=by kernel_rfl
theorem par3:((List.range' 252 84).all parB)=true:=by kernel_rfl
theorem par4:((List.range' 336 84).all parB)=true:=by kernel_rfl
theorem par5:((List.range' 420 84).all parB)=true:=by kernel_rfl
theorem par6:((List.range' 504 84).all parB)=true:=by kernel_rfl
theorem par7:((List.range' 588 84).all parB)=true:=by kernel_rfl
theorem par8:((List.range' 672 84).all parB)=true:=by kernel_rfl
theorem par9:((List.range' 756 84).all parB)=true:=by kernel_rfl
theorem par10:((List.range' 840 84).all parB)=true:=by kernel_rfl
theorem par11:((List.range' 924 18).all parB)=true:=by kernel_rfl
theorem par_part{a k g:Nat}(h:((List.range' a k).all parB)=true)(h1:a≤g)(h2:g<a+k):parB g=true:=List.all_eq_true.1 h g (List.mem_range'_1.2 ⟨h1,h2⟩)
theorem par_all(g:Nat)(hg:g<942):parB g=true:=by
 rcases Nat.lt_or_ge g 84 with h0|h0
 ·exact par_part par0 (by omega) (by omega)
 rcases Nat.lt_or_ge g 168 with h1|h1
 ·exact par_part par1 (by omega) (by omega)
 rcases Nat.lt_or_ge g 252 with h2|h2
 ·exact par_part par2 (by omega) (by omega)
 rcases Nat.lt_or_ge g 336 with h3|h3
 ·exact par_part par3 (by omega) (by omega)
 rcases Nat.lt_or_ge g 420 with h4|h4
 ·exact par_part par4 (by omega) (by omega)
 rcases Nat.lt_or_ge g 504 with h5|h5
 ·exact par_part par5 (by omega) (by omega)
 rcases Nat.lt_or_ge g 588 with h6|h6
 ·exact par_part par6 (by omega) (by omega)
 rcases Nat.lt_or_ge g 672 with h7|h7
 ·exact par_part par7 (by omega) (by omega)
 rcases Nat.lt_or_ge g 756 with h8|h8
 ·exact par_part par8 (by omega) (by omega)
 rcases Nat.lt_or_ge g 840 with h9|h9
 ·exact par_part par9 (by omega) (by omega)
 rcases Nat.lt_or_ge g 924 with h10|h10
 ·exact par_part par10 (by omega) (by omega)
 exact par_part par11 (by omega) (by omega)
theorem laidF:(Tryz.prog.funcs.all (fun f=>f.params.all fun t=>decide (t<880)))=true:=by
 rw[Array.all_eq_true]
 intro i hi
 have h:=par_all i (by rw[←funcs_n];exact hi)
 unfold parB at h
 rw[Array.getElem?_eq_getElem hi] at h
 exact h
theorem laidG:(Tryz.prog.globals.all (fun g=>decide (g.type<Tryz.prog.types.size))&&Tryz.prog.funcs.all (fun f=>f.params.all fun t=>decide (t<Tryz.prog.types.size)))=true:=by
 rw[types_n,laidV,laidF]
 rfl
theorem laidOut:laidOutB Tryz.prog=true:=by
 have h:(List.range' 0 880).all (rowFine Tryz.prog)=true:=(all_join _ 0 110 770 laid0 (all_join _ 110 110 660 laid1 (all_join _ 220 110 550 laid2 (all_join _ 330 110 440 laid3 (all_join _ 440 110 330 laid4 (all_join _ 550 110 220 laid5 (all_join _ 660 110 110 laid6 laid7)))))))
 unfold laidOutB
 rw[Bool.and_assoc,laidG,Bool.and_true,types_n,List.range_eq_range']
 exact h
end Go.Proofs.YtihcgekdnljahaaGreatDoor
end
section
namespace Go.Proofs.YtihcgekdnljahaaGreatDoor
open Go
theorem cellLaid:laidOutB Tryz.prog=true:=laidOut
theorem tabSame:Tryz.checked.prog.types=Tryz.checked.src.types:=by kernel_rfl
theorem cellMaps:mapsRowed Tryz.prog=true:=Go.ClosedOfChecked.mapsRowed_of (P:=Tryz.checked.prog) (Go.ClosedOfChecked.allSpec_of Tryz.checked.wellFormed tabSame)
theorem cellStops:(Tryz.prog.stops==[])=true:=by kernel_rfl
theorem cellKnobs:(Tryz.prog.stopKnobs==[])=true:=by kernel_rfl
theorem cellPlain:(Rows.defragCountsRow.plainKeys==Tryz.prog.plainKeys)=true:=by kernel_rfl
theorem any_list{P:Program}{q:Func→Bool}{b:Bool}(h:P.funcs.toList.any q=b):P.funcs.any q=b:=by rw[←Array.any_toList];exact h
theorem all_list{P:Program}{q:Func→Bool}{b:Bool}(h:P.funcs.toList.all q=b):P.funcs.all q=b:=by rw[←Array.all_toList];exact h
theorem cellHeard:Tryz.prog.stopsHeard=true:=by
 unfold Program.stopsHeard
 exact all_list (by kernel_rfl)
theorem noLater:Tryz.prog.laysLater=false:=by
 unfold Program.laysLater
 exact any_list (by kernel_rfl)
theorem cellEnter:Tryz.prog.mayEnter=true:=by
 unfold Program.mayEnter
 rw[noLater]
 kernel_rfl
theorem cellLifts:(Rows.defragCountsRow.lifted==Tryz.prog.liftsFinal)=true:=by kernel_rfl
theorem cellMake:(Tryz.prog.make==some Rows.defragCountsRow.make)=true:=by kernel_rfl
end Go.Proofs.YtihcgekdnljahaaGreatDoor
end
section
namespace Go.Proofs.YtihcgekdnljahaaGreatDoor
open Go
noncomputable def lookB(g:Nat):Bool:=((Tryz.prog.funcs[g]?).bind (·.body)).any fun c=>c.looks Tryz.prog
theorem sizeF:Tryz.prog.funcs.size=942:=by kernel_rfl
theorem look0:((List.range' 0 84).all fun g=>!lookB g)=true:=by kernel_rfl
theorem look1:((List.range' 84 84).all fun g=>!lookB g)=true:=by kernel_rfl
theorem look2:((List.range' 168 84).all fun g=>!lookB g)=true:=by kernel_rfl
theorem look3:((List.range' 252 84).all fun g=>!lookB g)=true:=by kernel_rfl
theorem look4:((List.range' 336 84).all fun g=>!lookB g)=true:=by kernel_rfl
theorem look5:((List.range' 420 84).all fun g=>!lookB g)=true:=by kernel_rfl
theorem look6:((List.range' 504 84).all fun g=>!lookB g)=true:=by kernel_rfl
theorem look7:((List.range' 588 84).all fun g=>!lookB g)=true:=by kernel_rfl
theorem look8:((List.range' 672 84).all fun g=>!lookB g)=true:=by kernel_rfl
theorem look9:((List.range' 756 84).all fun g=>!lookB g)=true:=by kernel_rfl
theorem look10:((List.range' 840 84).all fun g=>!lookB g)=true:=by kernel_rfl
theorem look11:((List.range' 924 18).all fun g=>!lookB g)=true:=by kernel_rfl
theorem look_part{a k g:Nat}(h:((List.range' a k).all fun g=>!lookB g)=true)(h1:a≤g)(h2:g<a+k):lookB g=false:=by
 have:=List.all_eq_true.1 h g (List.mem_range'_1.2 ⟨h1,h2⟩)
 simpa using this
theorem look_none(g:Nat)(hg:g<942):lookB g=false:=by
 rcases Nat.lt_or_ge g 84 with h0|h0
 ·exact look_part look0 (by omega) (by omega)
 rcases Nat.lt_or_ge g 168 with h1|h1
 ·exact look_part look1 (by omega) (by omega)
 rcases Nat.lt_or_ge g 252 with h2|h2
 ·exact look_part look2 (by omega) (by omega)
 rcases Nat.lt_or_ge g 336 with h3|h3
 ·exact look_part look3 (by omega) (by omega)
 rcases Nat.lt_or_ge g 420 with h4|h4
 ·exact look_part look4 (by omega) (by omega)
 rcases Nat.lt_or_ge g 504 with h5|h5
 ·exact look_part look5 (by omega) (by omega)
 rcases Nat.lt_or_ge g 588 with h6|h6
 ·exact look_part look6 (by omega) (by omega)
 rcases Nat.lt_or_ge g 672 with h7|h7
 ·exact look_part look7 (by omega) (by omega)
 rcases Nat.lt_or_ge g 756 with h8|h8
 ·exact look_part look8 (by omega) (by omega)
 rcases Nat.lt_or_ge g 840 with h9|h9
 ·exact look_part look9 (by omega) (by omega)
 rcases Nat.lt_or_ge g 924 with h10|h10
 ·exact look_part look10 (by omega) (by omega)
 exact look_part look11 (by omega) (by omega)
theorem noLooks:false=Tryz.prog.looks []:=by
 symm
 unfold Program.looks
 rw[List.any_eq_false]
 intro g hg
 have hl:=look_none g (by have:=List.mem_range.1 hg;rw[sizeF] at this;exact this)
 unfold lookB at hl
 cases hf:Tryz.prog.funcs[g]? with
 |none=>simp
 |some fn=>
  rw[hf] at hl
  cases hb:fn.body with
  |none=>simp[hb]
  |some c=>simp[hb] at hl;simp[hb,hl]
end Go.Proofs.YtihcgekdnljahaaGreatDoor
end
section
namespace Go.Proofs.YtihcgekdnljahaaGreatDoor
open Go
set_option maxRecDepth 1000000 in
theorem facts:joinedFacts Tryz.prog 3 Tryz.f3 Rows.defragCountsSpec Rows.defragCountsRow=true:=by
 unfold joinedFacts
 simp only[Bool.and_eq_true]
 repeat' apply And.intro
 all_goals first
  |with_reducible exact cellPlace
  |with_reducible exact cellUnfollowed
  |with_reducible exact cellRecurses
  |with_reducible exact cellNamed
  |with_reducible exact cellLaid
  |with_reducible exact cellMaps
  |with_reducible exact cellStops
  |with_reducible exact cellKnobs
  |with_reducible exact cellPlain
  |with_reducible exact cellHeard
  |with_reducible exact cellEnter
  |with_reducible exact cellLifts
  |with_reducible exact cellMake
  |kernel_rfl
theorem goes_of_none{P:Program}(h:P.funcs.toList.any Func.goes=false)(f:FuncId):P.goes f=false:=by
 have h':P.funcs.any Func.goes=false:=by rw[←Array.any_toList];exact h
 have one: ∀g:FuncId,(P.funcs[g]?).any Func.goes=false:=fun g=>by
  cases hg:P.funcs[g]? with
  |none=>rfl
  |some fn=>
   have hm:fn∈P.funcs.toList:=Array.mem_toList_iff.2 (Array.mem_of_getElem? hg)
   simpa using (List.any_eq_false.1 h) fn hm
 unfold Program.goes
 rw[h',Bool.and_false,Bool.or_false,List.any_eq_false]
 intro g _
 simpa using one g
theorem goesBy_of_none{P:Program}{c:OpenClaim}(hs:c.start= .entering)(h:P.funcs.toList.any Func.goes=false):false=c.goesBy P:=by
 unfold OpenClaim.goesBy Program.goesAt Program.goesFrom
 rw[hs]
 cases hf:P.funcNamed c.func with
 |none=>rfl
 |some f=>simp[goes_of_none h f]
set_option maxRecDepth 1000000 in
theorem noGo:Tryz.prog.funcs.toList.any Func.goes=false:=by kernel_rfl
end Go.Proofs.YtihcgekdnljahaaGreatDoor
end
