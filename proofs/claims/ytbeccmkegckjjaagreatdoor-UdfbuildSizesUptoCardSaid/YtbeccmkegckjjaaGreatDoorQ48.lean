/- Law 43, UdfbuildSizes: a part of the proof. -/
import Derived.Test.YtbeccmkegckjjaaGreatDoorQ47
import Derived.Test.YtbeccmkegckjjaaGreatDoorQ01
import Derived.ProofKit
import Derived.SizedLaws
import Derived.OpenShut
import Derived.Carry
import Derived.ChangeSlices
import Derived.Lay
import Derived.LaidOnce
import Derived.SevenTiedAt
import Derived.Stop.Joined
import Derived.PinnedBridge
import Derived.ChangeShapes
import Derived.Deep.Slices
import Derived.JoinedCond
import Derived.Lib.LaidU8T
import Derived.LaidLaws
section
namespace Go.Proofs.YtbeccmkegckjjaaGreatDoor
open Go.ChangeShapes Go.WideShapes Go.ChangeAt Go.WideMaps Go.WideElems Go.RowKit Go.Deep
theorem tabs_of_laid{w:World}{l:List (String × DataW Unit)}(hL:laidMet Tryz.prog l w)(h3:("unicode/utf8.first",Lib.firstData)∈l)(h4:("unicode/utf8.acceptRanges",Lib.acceptData)∈l):Tabs w:=by
 have hT:Lib.Utf8Tabs 1 2 w:=
  utf8Tabs_of_readsT (U8Types.of260 (ρ:=Tryz.lays197_ren) {Tryz.lays197 with}) ⟨by kernel_rfl,by kernel_rfl,by kernel_rfl,by kernel_rfl,by kernel_rfl,by kernel_rfl,by kernel_rfl⟩ (Lib.laidMet.reads hL h3) (Lib.laidMet.reads hL h4)
 refine ⟨hT,?_,?_⟩
 ·have h:=hT.1 0 (by omega)
  cases hg:w.heap[1]? with
  |none=>simp[World.cell?,hg] at h
  |some o=>exact (Array.getElem?_eq_some_iff.1 hg).1
 ·have h:=(hT.2 0 (by omega)).1
  cases hg:w.heap[2]? with
  |none=>simp[World.cell?,hg] at h
  |some o=>exact (Array.getElem?_eq_some_iff.1 hg).1
theorem int_of_shape{P:Program}{w:World}{g:Nat}{t:TypeId}{zero:Array Value}(h:w.ShapedOpen P)(hg:g<P.globals.size)(h0:((begin P (fun _ _=>0) default).world.heap[g]?).bind Obj.row? =some (zero,t))(hz:zero.size=1)
 (hb:P.buildable t=true) (hc:P.cellTypes P.depth t=some [t]) (hu:P.underlying t=some (.int .i64)): ∃m:Int,w.cell? ⟨g,0,none⟩=some (.int .i64 m):=by
 obtain ⟨cs,hh,hs,hr⟩:=h.1 g zero t hg h0
 obtain ⟨ts,hts,_,hall⟩:=hr hb
 rw[hc] at hts
 cases hts
 have h1:0<cs.size:=by omega
 obtain ⟨u,hu',hok⟩:=hall 0 cs[0] (by simp[h1])
 have:u=t:=by simpa using hu'.symm
 subst this
 have hcell:w.cell? ⟨g,0,none⟩=some cs[0]:=by simp[World.cell?,hh,h1]
 rw[hcell]
 unfold Cell.ok at hok
 rw[hu] at hok
 cases hv:cs[0] <;> rw[hv] at hok <;> first|(obtain ⟨rfl,_⟩:=hok;exact ⟨_,rfl⟩)|simp at hok
theorem maxLen_of_shape{w:World}(h:w.ShapedOpen Tryz.prog): ∃m:Int,w.cell? ⟨0,0,none⟩=some (.int .i64 m):=
 int_of_shape (zero:= #[.int .i64 0]) (t:=3) h (of_decide_eq_true (by kernel_rfl)) (by kernel_rfl) rfl (by kernel_rfl) (by kernel_rfl) Tryz.underlying3
theorem readN:Tryz.prog.readableRec 25=true:=by kernel_rfl
theorem readI:Tryz.prog.readableRec 3=true:=by kernel_rfl
theorem rowN:25<Tryz.prog.types.size:=of_decide_eq_true (by kernel_rfl)
theorem rowI:3<Tryz.prog.types.size:=of_decide_eq_true (by kernel_rfl)
theorem levels_count: ∀(n:Nat) (t:NT n),ntLevels n t≤ntCount n t
 |0,t=>nomatch t
 |n+1,(f,kids)=>by
  show (kids.map (ntLevels n)).foldl max 0+1≤1+(kids.map (ntCount n)).sum
  have h: ∀(l:List (NT n)) (a b:Nat),a≤b→(l.map (ntLevels n)).foldl max a≤b+(l.map (ntCount n)).sum:=fun l=>by
   induction l with
   |nil=>intro a b h;simpa using h
   |cons y l ih=>
    intro a b h
    have h1:=levels_count n y
    have h2:=ih (max a (ntLevels n y)) (b+ntCount n y) (by omega)
    simp only[List.map_cons,List.foldl_cons,List.sum_cons]
    omega
  have:=h kids 0 0 (Nat.le_refl _)
  omega
set_option maxRecDepth 1000000 in
theorem contract{H:Type}{enc:TypeId × Value→H}(W:World)(base:Nat)(args:Array Value)(ds gs:List (DataW H))(before:List MemPlace)
 (hval0: ∀(j:Nat) t v,Tryz.f3.params[j]? =some t→args[j]? =some v→Value.okWide Tryz.prog W .any base t v)
 (hW:DataW.Whole enc Tryz.prog Tryz.f3.params.toList Rows.udfbuildSizesSpec.vars false W args.toList ds gs before) (hbulk:Rows.uptoSmall H (ds++gs)=true) (hTb:TabsM W):
 Calls Tryz.prog 3 args W fun e W'=> ∃v,e= .returned v∧Rows.udfbuildSizesSpec.post enc Tryz.prog Tryz.f3 false true false false W args v W':=by
 have hval: ∀(j:Nat) t v,Tryz.f3.params[j]? =some t→args[j]? =some v→Value.okWide Tryz.prog W .any base t v:=hval0
 have hW':=hW
 obtain ⟨p,q,hA0,hV,rfl,_,_⟩:=hW
 have hA:DataW.TrodAll enc Tryz.prog W 0 (fun _=>true) true Tryz.f3.params.toList args.toList ds p:=hA0
 rw[Tryz.params3] at hA hval
 obtain ⟨v0,v1,d0,d1,p0,p1,rfl,rfl,rfl,h0,h1⟩:=trodAll_two hA
 obtain ⟨rfl,rfl⟩:=trodVars_none hV
 obtain ⟨kind,rfl⟩:=okWide_int Tryz.underlying3 (hval 1 3 v1 rfl rfl)
 have h0k:=h0
 obtain ⟨fuel,hf⟩:=h0
 clear hA0 hval0 hval
 simp only[List.append_nil] at hW' hbulk
 have hlt: ∀x∈p0++p1,x.block<W.heap.size:=fun x hx=>by simpa using hW'.lt x hx
 obtain ⟨n,t,hnode,hcnt,hbyt⟩:=open_node fuel _ _ hf
 have hb0:Rows.uptoBulk d0≤1048576:=by
  unfold Rows.uptoSmall at hbulk
  rw[decide_eq_true_eq] at hbulk
  simp only[Rows.uptoBulkAll] at hbulk
  omega
 obtain ⟨t',e1,e2,e3⟩:=nt_cut n t (ntLevels n t) (Nat.le_refl _)
 have hlv:=levels_count n t
 have hcnt':ntCount n t≤Rows.uptoBulk d0:=hcnt
 have hbyt':ntBytes n t≤20*Rows.uptoBulk d0:=hbyt
 have hnode':=e3 _ _ _ hnode
 obtain ⟨vs,rfl⟩: ∃vs,v0= .agg vs:=by
  have hl:=hnode.len
  cases v0 <;> first|exact ⟨_,rfl⟩|simp[Value.cells] at hl
 have hcv:(Value.agg vs).cells.toList=vs.toList:=rfl
 rw[hcv] at hnode'
 have key:=law_body (ntLevels n t) t' vs.toList W.heap.size W kind hnode' (Nat.le_refl _) hTb (by omega) (by omega) (by omega)
 rw[Array.toArray_toList] at key
 exact key.mono fun e W' ⟨he,hnx⟩=>⟨_,he,_,_,_,[],_,[],hW',trodAll_mk1 (shut_bool Tryz.underlying4 _),
  trodAll_mk2 (Below.trod laidOut readN rowN h0k hnx (fun x hx=>hlt x (by simp[hx]))) (Below.trod laidOut readI rowI h1 hnx (fun x hx=>hlt x (by simp[hx]))),rfl,hnx.frame _,fun h=>by cases h⟩
theorem own:ownKnob Tryz.prog.godebug=none:=by kernel_rfl
theorem laidPlain:(Rows.udfbuildSizesUptoRow.laid.all fun x=>x.2.handleName?.isNone)=true:=by kernel_rfl
theorem inFirst:("unicode/utf8.first",Lib.firstData)∈Rows.udfbuildSizesUptoRow.laid:=by
 rw[←Pinned.utf8First_eq]
 unfold Rows.udfbuildSizesUptoRow
 exact List.mem_cons_of_mem _ (List.mem_cons_of_mem _ (List.mem_cons_of_mem _ (List.mem_cons_of_mem _ List.mem_cons_self)))
theorem acceptEq:(Rows.laid_unicode_utf8_acceptRanges:DataW Unit)=Lib.acceptData:=by kernel_rfl
theorem inAccept:("unicode/utf8.acceptRanges",Lib.acceptData)∈Rows.udfbuildSizesUptoRow.laid:=by
 rw[←acceptEq]
 unfold Rows.udfbuildSizesUptoRow
 exact List.mem_cons_of_mem _ (List.mem_cons_of_mem _ (List.mem_cons_of_mem _ List.mem_cons_self))
def wArgs:Array Value:= #[.agg nodeZ, .int .i64 0]
noncomputable def upB{H:Type}(enc:TypeId × Value→H)(w:World):Bool:=match DataW.whole enc Tryz.prog w Tryz.f3.params.toList Rows.udfbuildSizesSpec.vars false wArgs.toList 8 with
 |some x=>Rows.uptoSmall H (x.1++x.2.1)
 |none=>false
set_option maxRecDepth 100000 in
theorem lifted(os:Os)(started:os.Started)(H:Type)(enc:TypeId × Value→H):
 ReturnsInHanded {} Tryz.checked os 3 .any (fun w args=>((Rows.OpenSpec.upto Rows.udfbuildSizesSpec).pre enc Tryz.prog Tryz.f3 [] false w args∧laidMetH Tryz.prog Rows.udfbuildSizesUptoRow.laid w)∧sizedMet enc Tryz.prog Tryz.f3 (Rows.OpenSpec.upto Rows.udfbuildSizesSpec) false w args)
  (Rows.udfbuildSizesSpec.post enc Tryz.prog Tryz.f3 false true false false):=by
 have hup:upB enc ((World.laidAll Tryz.prog os Rows.udfbuildSizesUptoRow.laid).forCall (fun _ _=>0) ⟨#[],wArgs,[]⟩).memory=true:=by kernel_rfl
 have hsz:ChangeSpec.sizedB enc Tryz.prog Tryz.f3 Rows.udfbuildSizesSpec false ((World.laidAll Tryz.prog os Rows.udfbuildSizesUptoRow.laid).forCall (fun _ _=>0) ⟨#[],wArgs,[]⟩).memory wArgs 8=true:=by kernel_rfl
 have hok:Input.okWideB Tryz.prog ((World.laidAll Tryz.prog os Rows.udfbuildSizesUptoRow.laid).forCall (fun _ _=>0) ⟨#[],wArgs,[]⟩) 3 ⟨#[],wArgs,[]⟩=true:=by kernel_rfl
 refine returnsInHanded_of_calls (C:=Tryz.checked) own started (by kernel_rfl) ⟨World.laidAll Tryz.prog os Rows.udfbuildSizesUptoRow.laid,fun _ _=>0,⟨#[],wArgs,[]⟩,World.laidAll_os _ _ _,World.shaped_of_ZipB (by kernel_rfl) (by kernel_rfl),(Input.okWide_of_okWideB (base:=0) hok).1,(Input.okWide_of_okWideB hok).2,⟨⟨?_,?_⟩,sizedMet_of_sizedB hsz⟩,?_⟩ ?_
 ·refine (OpenSpec.pre_some (k:=Rows.uptoSmall) rfl [] false _ _).2 ?_
  unfold upB at hup
  split at hup
  ·rename_i x hx
   exact ⟨x.1,x.2.1,x.2.2,DataW.Whole_of_whole hx,rfl,hup⟩
  ·cases hup
 ·rw[MakeChecks.laidMetH_plain _ _ _ laidPlain];exact laidMet_laidAll _ (by kernel_rfl) (by kernel_rfl)
 ·simp only[Assume.holds]
  exact ⟨by simp,by simp,fun _=>Modest.zero,by simp,by simp⟩
 ·intro w tape i _ hshape _ hok hpre hholds
  obtain ⟨_,_,_,fn',hfn',_,_,_,_,hval⟩:=hok
  have e:fn'=Tryz.f3:=Option.some.inj (hfn'.symm.trans Tryz.func3)
  subst e
  obtain ⟨⟨hp,hlaid⟩,hsz'⟩:=hpre
  obtain ⟨ds,gs,before,hw,hc,hkk⟩:=(OpenSpec.pre_some (k:=Rows.uptoSmall) rfl [] false _ _).1 hp
  have hw':=DataW.Whole.of_heap (w':=w.forCall tape i) (by rfl) hw
  rw[MakeChecks.laidMetH_plain _ _ _ laidPlain] at hlaid
  have hT:Tabs (w.forCall tape i):=tabs_of_laid (laidMet.of_heap (by rfl) hlaid) inFirst inAccept
  refine (contract (w.forCall tape i) w.heap.size i.args ds gs before hval hw' hkk ⟨hT,maxLen_of_shape hshape⟩).mono fun e W' ⟨v,he,hp⟩=>?_
  subst he
  exact ChangeSpec.post_blind hp
end Go.Proofs.YtbeccmkegckjjaaGreatDoor
end
