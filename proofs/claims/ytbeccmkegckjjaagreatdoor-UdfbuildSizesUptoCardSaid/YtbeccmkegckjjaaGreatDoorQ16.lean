/- Law 43, UdfbuildSizes: a part of the proof. -/
import Derived.Test.YtbeccmkegckjjaaGreatDoorQ15
import Derived.Test.YtbeccmkegckjjaaGreatDoorQ14
import Derived.Shelf.SlSortCmp.NoneTotal
import Derived.Maps.OwnSet
import Derived.BigQuiet
set_option linter.unusedVariables false
set_option linter.ambiguousOpen false
set_option linter.unusedSimpArgs false
section
namespace Go.Proofs.YtbeccmkegckjjaaGreatDoor
open Go.RowKit
set_option maxRecDepth 1000000
set_option maxHeartbeats 3200000
theorem p_joinN(path name:ByteArray)(root:Bool)(w:World)(hz:path.size+name.size<4294967296):Calls Tryz.prog 293 #[.string path, .string name, .bool root] w fun e w'=>(∃s:ByteArray,e= .returned (.string s)∧s.size≤path.size+name.size+1)∧w'=w:=by
 cases root
 ·go_enter Tryz.func293,Tryz.ntmps293
  go_wp2
  go_ret
  exact ⟨⟨_,rfl,by rw[ByteArray.size_append,ByteArray.size_append,show (⟨#[47]⟩:ByteArray).size=1 from rfl];omega⟩,rfl⟩
 ·go_enter Tryz.func293,Tryz.ntmps293
  go_wp2
  go_ret
  exact ⟨⟨_,rfl,by omega⟩,rfl⟩
theorem p_shownN(f:NF)(a a2:Option Addr)(l c l2 c2:Nat)(lv:Int)(w:World)(hh:0≤f.hidden∧f.hidden≤15):
 Calls Tryz.prog 292 #[.int .i64 3, .agg (nfCells f (.slice a l c) (.slice a2 l2 c2)).toArray, .int .i64 lv] w fun e w'=>e= .returned (.bool (shownF f))∧RowKit.Below w.heap.size w w':=by
 have HS:=hQ (show shownF f=decide (f.hidden / 8 % 2=0) from rfl)
 have HE:=hQ (fun W:World=>p_exists W)
 have hb:=below_alloc1 w
 generalize shownF f=sh at*
 unfold nfCells
 generalize f.hidden=hd at*
 obtain ⟨h0,h1⟩:=hh
 have hcase:(hd=0∨hd=1∨hd=2∨hd=3∨hd=4∨hd=5∨hd=6∨hd=7)∨(hd=8∨hd=9∨hd=10∨hd=11∨hd=12∨hd=13∨hd=14∨hd=15):=by omega
 clear h0 h1
 rcases hcase with h|h
 ·rcases h with rfl|rfl|rfl|rfl|rfl|rfl|rfl|rfl
  all_goals
   go_enter Tryz.func292,Tryz.ntmps292
   go_wp2_with (go_at_call 213;refine (HE.out _).mono ?_;rintro e w5 ⟨rfl,rfl⟩)
   all_goals
    go_ret
    exact ⟨ret_bool' (by rw[HS.out];decide),hb _⟩
 ·rcases h with rfl|rfl|rfl|rfl|rfl|rfl|rfl|rfl
  all_goals
   go_enter Tryz.func292,Tryz.ntmps292
   go_wp2_with (go_at_call 213;refine (HE.out _).mono ?_;rintro e w5 ⟨rfl,rfl⟩)
   go_ret
   exact ⟨ret_bool' (by rw[HS.out];decide),hb _⟩
theorem p_names1(w:World)(gb b off n kc i j:Nat)(x y:ByteArray)(hi:i<n)(hj:j<n)(c0:w.cell? ⟨gb,0,none⟩=some (.slice (some ⟨b,off,none⟩) n kc))(ci:w.cell? ⟨b,off+i*12,none⟩=some (.string x))(cj:w.cell? ⟨b,off+j*12,none⟩=some (.string y)):
 Calls Tryz.prog 350 #[.int .i64 (i:Int), .int .i64 (j:Int), .pointer (some ⟨gb,0,none⟩)] w fun e w'=>e= .returned (.int .i64 (Lib.compareBytes x.data.toList y.data.toList))∧ ∃q,w'=w.drewN q:=by
 have HC:=hQ (fun W:World=>Tryz.strings_Compare x y W)
 have hi':(i:Int)<n:=by omega
 have hj':(j:Int)<n:=by omega
 generalize Lib.compareBytes x.data.toList y.data.toList=r at*
 go_enter Tryz.func350,Tryz.ntmps350
 go_wp2_with fail
 go_quiet (first|(go_at_call 289;exact Calls.quiet_of_same (HC.out _)))
 go_wp2
 go_ret
 exact ⟨rfl,_,rfl⟩
open Go.Sort Go.Shelf in
theorem p_show1(f f':NF)(a a2 b b2:Option Addr)(l c l2 c2 l' c' l2' c2':Nat)(w:World):
 Calls Tryz.prog 295 #[.agg (nfCells f (.slice a l c) (.slice a2 l2 c2)).toArray, .agg (nfCells f' (.slice b l' c') (.slice b2 l2' c2')).toArray] w fun e w'=>e= .returned (.int .i64 (Lib.compareBytes f.name.data.toList f'.name.data.toList))∧ ∃q os',w'=grow (w.drewN q) os':=by
 have HC:=hQ (fun W:World=>Tryz.strings_Compare f.name f'.name W)
 generalize Lib.compareBytes f.name.data.toList f'.name.data.toList=r at*
 have HB0:=hQ (Box.new (ty:=25) w (nfCells f (.slice a l c) (.slice a2 l2 c2)))
 unfold nfCells at HB0 ⊢
 go_enter Tryz.func295,Tryz.ntmps295
 go_upto_region 1 with (fail)
 have hboxA:=HB0.out.step (below_alloc1 _ (.cells (nfCells f' (.slice b l' c') (.slice b2 l2' c2')).toArray 25))
 have hboxB:=Box.new (ty:=25) (w.alloc (.cells #[.string f.name, .int .i64 f.kind, .string f.data, .string f.target, .int .i64 f.mode, .int .i64 f.uid, .int .i64 f.gid, .int .i64 f.time, .int .i64 f.weight, .int .i64 f.hidden, .slice a l c, .slice a2 l2 c2] 25)) (nfCells f' (.slice b l' c') (.slice b2 l2' c2'))
 rw[alloc_size] at hboxB
 unfold nfCells at hboxA hboxB
 have HW:=hQ (fun (o1 o2:Obj)=>show (w.alloc o1).alloc o2=grow (w.drewN 0) #[o1,o2] by rw[alloc_eq_grow,alloc_eq_grow,grow_grow];rfl)
 obtain ⟨w2,hw2⟩: ∃w2,w2=World.alloc (World.alloc w (.cells #[.string f.name, .int .i64 f.kind, .string f.data, .string f.target, .int .i64 f.mode, .int .i64 f.uid, .int .i64 f.gid, .int .i64 f.time, .int .i64 f.weight, .int .i64 f.hidden, .slice a l c, .slice a2 l2 c2] 25)) (.cells #[.string f'.name, .int .i64 f'.kind, .string f'.data, .string f'.target, .int .i64 f'.mode, .int .i64 f'.uid, .int .i64 f'.gid, .int .i64 f'.time, .int .i64 f'.weight, .int .i64 f'.hidden, .slice b l' c', .slice b2 l2' c2'] 25):=⟨_,rfl⟩
 have HW2:=hQ (hw2.trans (HW.out _ _))
 rw[←hw2] at hboxA hboxB ⊢
 have n0:=hboxA.cell 0 _ rfl
 have n1:=hboxB.cell 0 _ rfl
 clear hw2 hboxA hboxB HW HB0
 go_wp2_with (go_at_call 289;refine (HC.out _).mono ?_;rintro e w5 ⟨rfl,rfl⟩)
 go_ret
 exact ⟨rfl,0,_,HW2.out⟩
theorem own_blk{w:World}{base:Nat}{e:TypeId}{size:Nat}{v:Value}{n:Nat}{xs:List Value}(h:w.ownsRow base e size v n xs)(b:Nat)(hb:v.ownBlock=some b): ∃cur,w.heap[b]? =some (.cells cur e (0,0)):=by
 rcases h.2 with ⟨rfl,_⟩|⟨g,cap,cur,rfl,_,hg,_⟩
 ·cases hb
 ·injection hb with hb
  subst hb
  exact ⟨_,hg⟩
section
open Go.Sort Go.Shelf Go.Lib
def cmpN(names:List ByteArray)(x y:Fin names.length):Int:=Lib.compareBytes names[x.val].data.toList names[y.val].data.toList
theorem cmpN_lt(names:List ByteArray)(hs:sortedTo names names.length=true)(x y:Fin names.length):ltOf (cmpN names) x y=decide (x.val<y.val):=by
 have key: ∀(i j:Nat) (hi:i<j) (hj:j<names.length),ltB (names[i]'(by omega)).data.toList names[j].data.toList=true:=fun i j hi hj=>by
  have h1:=sortedTo_lt names hs (j-i-1) i (by omega)
  have: ∀k (hk:k<names.length),k=j→names[k]=names[j]:=fun k hk e=>by subst e;rfl
  rw[←this _ (by omega) (show i+(j-i-1)+1=j by omega)];exact h1
 show ltB names[x.val].data.toList names[y.val].data.toList=_
 by_cases h:x.val<y.val
 ·rw[key x.val y.val h y.isLt];simp[h]
 ·rw[decide_eq_false h]
  by_cases h2:y.val<x.val
  ·have h3:=key y.val x.val h2 x.isLt
   rcases hq:ltB names[x.val].data.toList names[y.val].data.toList with _|_
   ·rfl
   ·have h4:=ltB_trans h3 hq
    rw[less_irr] at h4;cases h4
  ·have e:x=y:=Fin.ext (by omega)
   subst e
   exact less_irr _
theorem cmpN_swo(names:List ByteArray)(hs:sortedTo names names.length=true):SWO (ltOf (cmpN names)) where
 irrefl x:=by rw[cmpN_lt names hs];simp
 trans x y z h1 h2:=by rw[cmpN_lt names hs] at *;simp at *;omega
 ntrans x y z h1 h2:=by rw[cmpN_lt names hs] at *;simp at *;omega
theorem nf_cellJ(f:NF)(a a2:Option Addr)(l c l2 c2:Nat): ∀u∈nfCells f (.slice a l c) (.slice a2 l2 c2),u.oneCell'=true:=fun u hu=>by
 unfold nfCells at hu
 simp at hu
 rcases hu with rfl|rfl|rfl|rfl|rfl|rfl|rfl|rfl|rfl|rfl|rfl|rfl <;> rfl
def idF(n:Nat):Array (Fin n):=Array.ofFn fun i=>i
theorem idF_size(n:Nat):(idF n).size=n:=by simp[idF]
theorem idF_get(n:Nat)[Inhabited (Fin n)](j:Nat)(h:j<n):(idF n)[j]! =⟨j,h⟩:=by
 rw[getElem!_pos (idF n) j (by rw[idF_size];exact h)]
 simp[idF]
theorem sorted_same(names:List ByteArray)[Inhabited (Fin names.length)](hs:sortedTo names names.length=true)(d':Array (Fin names.length))(hP:PermIn 0 (idF names.length).size (idF names.length) d')(hS:SortedIn (ltOf (cmpN names)) 0 (idF names.length).size d'):d'=idF names.length:=by
 have hanti: ∀x y,ltOf (cmpN names) x y=false→ltOf (cmpN names) y x=false→x=y:=fun x y h1 h2=>by
  rw[cmpN_lt names hs] at*
  simp at h1 h2
  exact Fin.ext (by omega)
 have h1:=sorted_unique_holds (cmpN_swo names hs) hanti _ _ hP hS
 have h2:=sorted_unique_holds (cmpN_swo names hs) hanti (idF names.length) (idF names.length) (permIn_refl _ _ _) (fun i j _ hij hj=>by
  rw[idF_size] at hj
  rw[idF_get _ j hj,idF_get _ i (by omega),cmpN_lt names hs]
  simp;omega)
 exact Array.ext' (h1.trans h2.symm)
theorem below_grown(w:World)(m:Nat)(os:Array Obj):RowKit.Below w.heap.size w (grow (Go.Sort.ahead w m) os):=(below_drewN (RowKit.Below.refl w.heap.size w) m).trans ⟨rfl,rfl,rfl,by simp[World.drewN,grow,Go.Sort.ahead],fun b hb=>(heap_grow_old (Go.Sort.ahead w m) os hb)⟩
theorem p_sortI(names:List ByteArray)(hs:sortedTo names names.length=true)(hn:names.length≤64)(w:World)(gl cap gb kc:Nat)(ka:Option Addr)(B:Nat)(hown:w.ownsRow B 3 1 (.slice (some ⟨gl,0,none⟩) names.length cap) names.length (intsV (List.range names.length)))
 (c0:w.cell? ⟨gb,0,none⟩=some (.slice ka names.length kc)) (hcell: ∀j,(h:j<names.length)→ ∃b off,ka=some ⟨b,off,none⟩∧b≠gl∧w.cell? ⟨b,off+j*12,none⟩=some (.string names[j])) (h1:gb≠gl):
 Calls Tryz.prog 349 #[.slice (some ⟨gl,0,none⟩) names.length cap, .func (.func 350) #[] #[.pointer (some ⟨gb,0,none⟩)]] w fun e w'=>e= .returned (.tuple #[])∧RowKit.Below w.heap.size w w':=by
 by_cases h0:names.length=0
 ·rw[h0]
  refine (AnyF.slices_SortFunc_none (P:=Tryz.prog) (ρ:=Tryz.laysSlF6_f349_ren) {Tryz.laysSlF6_f349 with} (some ⟨gl,0,none⟩) cap _ w).mono ?_
  rintro e w' ⟨rfl,rfl⟩
  exact ⟨rfl,RowKit.Below.refl _ _⟩
 ·have hpos:0<names.length:=by omega
  haveI:Inhabited (Fin names.length):=⟨⟨0,hpos⟩⟩
  obtain ⟨b,off,rfl,hb,_⟩:=hcell 0 hpos
  have hcell': ∀j,(h:j<names.length)→w.cell? ⟨b,off+j*12,none⟩=some (.string names[j]):=fun j hj=>by
   obtain ⟨b',off',e1,e2,e3⟩:=hcell j hj
   injection e1 with e1
   injection e1 with e1 e4
   subst e1 e4
   exact e3
  obtain ⟨cur,hcur⟩:=own_blk hown gl rfl
  have hlt:=(Array.getElem?_eq_some_iff.1 hcur).1
  have hH:Holds (fun x:Fin names.length=>Value.int .i64 (x.val:Int)) w gl 0 (idF names.length):=fun j hj=>by
   rw[idF_size] at hj
   refine ⟨?_,by rw[Nat.zero_add];exact frozen_of_row w gl j cur _ hcur⟩
   rw[Nat.zero_add,hown.cellAt j (by omega),idF_get _ j hj,intsV,List.getElem?_map,List.getElem?_range hj]
   rfl
  have hst: ∀(m:Nat) (os:Array Obj) (dk:Array (Fin names.length)) (g o:Nat) (v:Value),g≠gl→w.cell? ⟨g,o,none⟩=some v→(sortWorld (fun x:Fin names.length=>Value.int .i64 (x.val:Int)) w gl 0 m dk os).cell? ⟨g,o,none⟩=some v:=fun m os dk g o v hg hv=>by
   unfold sortWorld
   rw[cell?_grow _ _ _ (by rw[Go.Sort.size_putRow];exact World.block_lt_of_cell? _ _ hv),cell?_putRow_other _ _ _ _ _ _ (.inl hg)]
   exact hv
  have hcmp:CmpLays1 Tryz.prog 350 #[.pointer (some ⟨gb,0,none⟩)] (fun x:Fin names.length=>Value.int .i64 (x.val:Int)) (cmpN names) gl 0 (idF names.length).size w:=fun m os dk _ x y=>by
   refine (p_names1 (sortWorld (fun x:Fin names.length=>Value.int .i64 (x.val:Int)) w gl 0 m dk os) gb b off names.length kc x.val y.val names[x.val] names[y.val] x.isLt y.isLt (hst _ _ _ _ _ _ h1 c0) (hst _ _ _ _ _ _ hb (hcell' x.val x.isLt)) (hst _ _ _ _ _ _ hb (hcell' y.val y.isLt))).mono ?_
   rintro e w' ⟨rfl,q,rfl⟩
   exact ⟨rfl,q, #[],by rw[grow_empty]⟩
  have hc:=Tryz.slices_SortFunc (fun x:Fin names.length=>Value.int .i64 (x.val:Int)) (fun _=>rfl) (cmpN names) (cmpN_swo names hs) 350 #[.pointer (some ⟨gb,0,none⟩)] gl 0 cap (idF names.length) w (enters_of Tryz.func350 (by kernel_rfl) rfl) hcmp hH hlt (by rw[idF_size];omega)
  rw[idF_size] at hc
  refine hc.mono ?_
  rintro e w' ⟨rfl,d',m,os,hP,hS,rfl⟩
  rw[sorted_same names hs d' (by rw[idF_size];exact hP) (by rw[idF_size];exact hS)]
  refine ⟨rfl,?_⟩
  have hH':Holds (fun x:Fin names.length=>Value.int .i64 (x.val:Int)) (Go.Sort.ahead w m) gl 0 (idF names.length):=hH
  unfold sortWorld
  rw[putRow_self _ _ _ _ _ hH']
  exact below_grown w m os
theorem p_sortK(names:List ByteArray)(hs:sortedTo names names.length=true)(hn:names.length≤64)(w:World)(ca:Option Addr)(cc base:Nat)(kcs:List (List Value))(hl:kcs.length=names.length)(hown:w.ownsRow base 25 12 (.slice ca names.length cc) names.length kcs.flatten)
 (hc: ∀j,(h:j<names.length)→ ∃(f:NF) (a a2:Option Addr) (l c l2 c2:Nat),f.name=names[j]∧kcs[j]'(by omega)=nfCells f (.slice a l c) (.slice a2 l2 c2)):
 Calls Tryz.prog 294 #[.slice ca names.length cc, .func (.func 295) #[] #[]] w fun e w'=>e= .returned (.tuple #[])∧RowKit.Below w.heap.size w w':=by
 by_cases h0:names.length=0
 ·rw[h0]
  refine (AnyF.slices_SortFunc_none (P:=Tryz.prog) (ρ:=Tryz.laysSortNode_ren) Tryz.laysSortNode ca cc _ w).mono ?_
  rintro e w' ⟨rfl,rfl⟩
  exact ⟨rfl,RowKit.Below.refl _ _⟩
 ·have hpos:0<names.length:=by omega
  haveI:Inhabited (Fin names.length):=⟨⟨0,hpos⟩⟩
  obtain ⟨gl,rfl⟩: ∃gl,ca=some ⟨gl,0,none⟩:=by
   rcases hown.2 with ⟨e,_⟩|⟨g,cap,cur,e,_⟩
   ·injection e with _ e;omega
   ·injection e with e;exact ⟨g,e⟩
  obtain ⟨cur,hcur⟩:=own_blk hown gl rfl
  have hlt:=(Array.getElem?_eq_some_iff.1 hcur).1
  have hrow: ∀c∈kcs,c.length=12:=fun c hcm=>by
   obtain ⟨j,hj,rfl⟩:=List.mem_iff_getElem.1 hcm
   obtain ⟨_,_,_,_,_,_,_,_,e⟩:=hc j (by omega)
   rw[e];rfl
  have hen: ∀x:Fin names.length,x.val<kcs.length:=fun x=>by have:=x.isLt;omega
  have hH:HoldsK (fun x:Fin names.length=>kcs[x.val]'(hen x)) 12 w gl 0 (idF names.length):=fun t ht=>by
   rw[size_flatK,idF_size] at ht
   refine ⟨?_,by rw[Nat.zero_add];exact frozen_of_row w gl t cur _ hcur⟩
   have hq:t / 12<names.length:=by omega
   have h1:=flat_at 12 kcs hrow (t / 12) (t % 12) (by omega) (by omega)
   rw[show t / 12*12+t % 12=t by omega] at h1
   rw[Nat.zero_add,hown.cellAt t (by omega),h1,get_flatK _ _ _ t (by rw[idF_size];exact ht),idF_get _ _ hq]
   have h2:t % 12<(kcs[t / 12]'(by omega)).length:=by rw[hrow _ (List.getElem_mem _)];omega
   rw[List.getElem?_eq_getElem h2]
   exact congrArg some (getElem!_pos (kcs[t / 12]'(by omega)) (t % 12) h2).symm
  have hcmp:CmpLays Tryz.prog 295 #[] (fun x:Fin names.length=>kcs[x.val]'(hen x)) 12 (cmpN names) gl 0 (idF names.length).size w:=fun m os dk _ x y=>by
   obtain ⟨f,a,a2,l,c,l2,c2,e1,e2⟩:=hc x.val x.isLt
   obtain ⟨f',b,b2,l',c',l2',c2',e1',e2'⟩:=hc y.val y.isLt
   show Calls _ _ (#[.agg (kcs[x.val]'(hen x)).toArray, .agg (kcs[y.val]'(hen y)).toArray]++ #[]) _ _
   rw[Array.append_empty,e2,e2']
   refine (p_show1 f f' a a2 b b2 l c l2 c2 l' c' l2' c2' _).mono ?_
   rintro e w' ⟨rfl,h⟩
   refine ⟨?_,h⟩
   unfold cmpN
   rw[e1,e1']
  have hcl:=AnyQ.slices_SortFunc Tryz.laysSortNode 12 Tryz.isAgg25 Tryz.sizeOf25 (fun x:Fin names.length=>kcs[x.val]'(hen x)) (fun x=>hrow _ (List.getElem_mem _)) (fun x v hv=>by
   obtain ⟨f,a,a2,l,c,l2,c2,e1,e2⟩:=hc x.val x.isLt
   rw[e2] at hv
   exact nf_cellJ _ _ _ _ _ _ _ v hv) (cmpN names) (cmpN_swo names hs) 295 #[] gl 0 cc (idF names.length) w (enters_of Tryz.func295 (by kernel_rfl) rfl) hcmp hH hlt (by rw[idF_size];omega)
  rw[idF_size] at hcl
  refine hcl.mono ?_
  rintro e w' ⟨rfl,d',m,os,hP,hS,rfl⟩
  rw[sorted_same names hs d' (by rw[idF_size];exact hP) (by rw[idF_size];exact hS)]
  refine ⟨rfl,?_⟩
  have hH':HoldsK (fun x:Fin names.length=>kcs[x.val]'(hen x)) 12 (Go.Sort.ahead w m) gl 0 (idF names.length):=hH
  unfold sortWorldK
  rw[putRowK_self _ _ _ _ _ _ hH']
  exact below_grown w m os
end
end Go.Proofs.YtbeccmkegckjjaaGreatDoor
end
section
namespace Go.Proofs.YtbeccmkegckjjaaGreatDoor
open Go.RowKit
open Go.Maps (Keyed IsMap)
set_option maxRecDepth 1000000
set_option maxHeartbeats 6400000
theorem mapLawS:Keyed Tryz.prog 9:=Maps.string_keyed Tryz.underlying9
def ordL(n k:Nat):List Value:=intsV (List.range k)++List.replicate (n-k) (.int .i64 0)
theorem ordL_zero(n:Nat):ordL n 0=List.replicate n (.int .i64 0):=by simp[ordL,intsV]
theorem ordL_full(n:Nat):ordL n n=intsV (List.range n):=by simp[ordL]
theorem intsV_len(l:List Nat):(intsV l).length=l.length:=by simp[intsV]
theorem ordL_len(n k:Nat)(hk:k≤n):(ordL n k).length=n:=by rw[ordL,List.length_append,intsV_len,List.length_range,List.length_replicate];omega
theorem ordL_set(n k:Nat)(hk:k<n):(ordL n k).set k (.int .i64 (k:Int))=ordL n (k+1):=by
 unfold ordL
 obtain ⟨d,hd⟩: ∃d,n-k=d+1:=⟨n-k-1,by omega⟩
 have hd2:n-(k+1)=d:=by omega
 have hl:(intsV (List.range k)).length=k:=by rw[intsV_len,List.length_range]
 rw[hd,hd2,List.replicate_succ,List.set_append_right _ _ (by rw[hl];exact Nat.le_refl _),hl,Nat.sub_self,List.set_cons_zero,List.range_succ]
 simp[intsV]
theorem madeInt(n:Nat):(madeCells (Value.int .i64 0).cells (n*1)).toList=List.replicate n (.int .i64 0):=by
 rw[Nat.mul_one];exact toList_madeCells_one _ _
theorem Box.below{ty:TypeId}{g:Nat}{vs:List Value}{w w':World}{r:Option Nat}(h:Box ty g vs w)(hg:w.grownBy w' r)(hne:r≠some g):Box ty g vs w':=(hg.block g h.lt fun e=>hne e.symm).trans h
def NmR(w:World)(gb gl gO gm n kc:Nat)(ka:Option Addr)(names:List ByteArray)(k:Nat)(wr:World):Prop:=
 wr.ownsRow w.heap.size 9 1 (.slice (some ⟨gO,0,none⟩) n n) n (outL names n k)∧wr.ownsRow w.heap.size 3 1 (.slice (some ⟨gl,0,none⟩) n n) n (intsV (List.range n))∧Box 22 gb [.slice ka n kc] wr∧
  (∃D:DataW Unit,wr.ownsMap Tryz.prog 9 (plainElem Tryz.prog 4) gm k D)∧Below w.heap.size w wr
set_option maxHeartbeats 25600000 in
theorem p_namesN(n:Nat)(kids:List (NT n))(ka:Option Addr)(kc B:Nat)(w:World)(hT:Tabs w)(hB:B≤w.heap.size)(hl:kids.length≤64)(hs:sortedTo (kidNames n kids) kids.length=true)
 (hv: ∀j,(h:j<kids.length)→nameOK (ntF n kids[j]).name.data.toList=true∧(ntF n kids[j]).name.size≤65536)
 (hk: ∀j,(h:j<kids.length)→ ∃b off cs,ka=some ⟨b,off,none⟩∧b<B∧NodeV w (· < B) n kids[j] cs∧ ∀i x,cs[i]? =some x→w.cell? ⟨b,off+j*12+i,none⟩=some x):
 Calls Tryz.prog 291 #[.int .i64 3, .slice ka kids.length kc] w fun e w'=> ∃g:Nat,e= .returned (.tuple #[.slice (some ⟨g,0,none⟩) kids.length kids.length, .int .i64 0])∧
  w'.ownsRow w.heap.size 9 1 (.slice (some ⟨g,0,none⟩) kids.length kids.length) kids.length ((kidNames n kids).map Value.string)∧Below w.heap.size w w':=by
 obtain ⟨i0,hi,hz0,hz1,hz2⟩:=info_parts info_str
 obtain ⟨i1,hi',hy0,hy1,hy2⟩:=info_parts info_int
 have hnl:=kidNames_len n kids
 have HE:=hQ (fun W:World=>p_exists W)
 have HN:=hQ (fun (x:ByteArray) (W:World) (hW:Below w.heap.size w W) (h:x.size≤65536)=>p_name x W (hT.step hW) h)
 have HROW:=hQ (show ∀j,(h:j<kids.length)→ ∃b off ka' kl' kc' a' sl' sc',ka=some ⟨b,off,none⟩∧b<B∧ ∀i x,(nfCells (ntF n kids[j]) (.slice ka' kl' kc') (.slice a' sl' sc'))[i]? =some x→w.cell? ⟨b,off+j*12+i,none⟩=some x from fun j hj=>by
  obtain ⟨b,off,cs,e1,e2,e3,e4⟩:=hk j hj
  obtain ⟨a',a2',l',c',l2',c2',rfl⟩:=e3.cellsF
  exact ⟨b,off,a',l',c',a2',l2',c2',e1,e2,e4⟩)
 have hkn: ∀j (h:j<kids.length),(kidNames n kids)[j]'(by omega)=(ntF n kids[j]).name:=fun j h=>by simp[kidNames]
 have HNAME:=hQ (show ∀(W:World),Below w.heap.size w W→ ∀j,(h:j<kids.length)→ ∃b off,ka=some ⟨b,off,none⟩∧b<B∧W.cell? ⟨b,off+j*12,none⟩=some (.string (ntF n kids[j]).name) from fun W hW j hj=>by
  obtain ⟨b,off,_,_,_,_,_,_,e1,e2,e3⟩:=HROW.out j hj
  exact ⟨b,off,e1,e2,(hW.cell (Nat.lt_of_lt_of_le e2 hB)).trans (e3 0 _ rfl)⟩)
 have HSORT:=hQ (fun (W:World) (gl gb:Nat) (hW:Below w.heap.size w W) (ho:W.ownsRow w.heap.size 3 1 (.slice (some ⟨gl,0,none⟩) kids.length kids.length) kids.length (intsV (List.range kids.length))) (hb:W.cell? ⟨gb,0,none⟩=some (.slice ka kids.length kc)) (hne:gb≠gl)=>show
  Calls Tryz.prog 349 #[.slice (some ⟨gl,0,none⟩) kids.length kids.length, .func (.func 350) #[] #[.pointer (some ⟨gb,0,none⟩)]] W fun e w'=>e= .returned (.tuple #[])∧Below W.heap.size W w' from by
  have h:=p_sortI (kidNames n kids) (by rw[hnl];exact hs) (by omega) W gl kids.length gb kc ka w.heap.size (by rw[hnl];exact ho) (by rw[hnl];exact hb) (fun j hj=>by
   obtain ⟨b,off,e1,e2,e3⟩:=HNAME.out W hW j (by omega)
   exact ⟨b,off,e1,by have:=(ho.lt gl rfl).1;omega,by rw[hkn j (by omega)];exact e3⟩) hne
  rw[hnl] at h
  exact h)
 have HNE:=hQ (fun i j (hij:i<j) (hj:j<kids.length)=>show ((ntF n (kids[i]'(by omega))).name.toList==(ntF n kids[j]).name.toList)=false by
  have h:=sorted_ne (kidNames n kids) (by rw[hnl];exact hs) i j hij (by omega)
  rw[Bool.eq_false_iff] at h ⊢
  intro h2
  refine h ?_
  rw[beq_iff_eq] at h2 ⊢
  rw[hkn j hj,hkn i (by omega)]
  exact h2.symm)
 have HV:=hQ hv
 have HKN:=hQ hkn
 have hlen:(kids.length:Int)≤64:=by omega
 have HNL:=hQ hnl
 have hb1:=below_alloc1 w (.cells #[.slice ka kids.length kc] 22)
 have HB0:=hQ (Box.new (ty:=22) w [.slice ka kids.length kc])
 clear hk hs hv hkn hT
 go_enter Tryz.func291,Tryz.ntmps291
 go_upto_region 1 with (fail)
 have hboxK:Box 22 w.heap.size [.slice ka kids.length kc] _:=HB0.out
 generalize w.alloc _=w1 at*
 clear HB0
 go_wp2_with fail
 refine (HE.out _).mono ?_
 rintro e w1 ⟨rfl,rfl⟩
 have c0:=hboxK.cell 0 _ rfl
 go_upto_region 6 with (first
  |(at_make;refine wpList_make_full _ rfl _ _ 34 rfl w.heap.size 3 i1 (.int .i64 0) 1 Tryz.underlying34 hi' hy0 hy1 .i64 .i64 _ _ kids.length rfl rfl rfl rfl (by rw[hy2];omega) (by unfold maxLen;omega) hb1.size ?_;intro w3 hown3 hgrow3)
  |fail)
 have hlt1:=hboxK.lt
 have hb3:Below w.heap.size w w3:=hb1.grown hgrow3 hb1.size (fun j hj=>by cases hj)
 have hboxK3:=hboxK.below hgrow3 (by simp)
 rw[madeInt] at hown3
 generalize hgl:w1.heap.size=gl at*
 have hgbl:w.heap.size≠gl:=by omega
 have HI:=hQ (show w3.ownsRow w.heap.size 3 1 (.slice (some ⟨gl,0,none⟩) kids.length kids.length) kids.length (ordL kids.length 0)∧Box 22 w.heap.size [.slice ka kids.length kc] w3∧Below w.heap.size w w3 from ⟨by rw[ordL_zero];exact hown3,hboxK3,hb3⟩)
 have c0:=hboxK3.cell 0 _ rfl
 clear hown3 hgrow3 hboxK hboxK3 hb3 hb1 hgl hlt1 HE
 go_wp2_with fail
 clear c0
 go_loopw [27] (fun i wr=> ∃k:Nat,k≤kids.length∧i= .int .i64 k∧wr.ownsRow w.heap.size 3 1 (.slice (some ⟨gl,0,none⟩) kids.length kids.length) kids.length (ordL kids.length k)∧Box 22 w.heap.size [.slice ka kids.length kc] wr∧Below w.heap.size w wr) (fun i _=>kids.length-(intOf i).toNat)
 case atStart=>exact ⟨0,Nat.zero_le _,rfl,HI.out⟩
 case round=>
  obtain ⟨k,hk,rfl,hown,hbox,hbw⟩:=hrel
  clear HI
  by_cases hlt:k<kids.length
  ·have hi1:(k:Int)<kids.length:=by omega
   obtain ⟨b,off,ka',kl',kc',a',sl',sc',rfl,hbB,hc⟩:=HROW.out k hlt
   have hcell': ∀j x,(nfCells (ntF n kids[k]) (.slice ka' kl' kc') (.slice a' sl' sc'))[j]? =some x→wr.cell? ⟨b,off+k*12+j,none⟩=some x:=fun j x hx=>(hbw.cell (Nat.lt_of_lt_of_le hbB hB)).trans (hc j x hx)
   obtain ⟨v1,v2⟩:=HV.out k hlt
   have HOWN:=hQ hown
   have HBOX:=hQ hbox
   clear hc hown hbox
   generalize ntF n kids[k]=f' at*
   go_upto_region 9 with (first
    |(refine wpList_load_at rfl _ _ rfl b (off+k*12) (nfCells f' (.slice ka' kl' kc') (.slice a' sl' sc')) _ rfl hcell' Tryz.underlying25 rfl node_size ?_)
    |(refine wpList_store_row rfl _ _ _ rfl wr.heap.size _ nodeZ (nfCells f' (.slice ka' kl' kc') (.slice a' sl' sc')).toArray rfl rfl (heap_alloc_last _ _) 12 node_size rfl rfl (node_one _ _ _ _ _ _ _) ?_)
    |go_in)
   have hst2:=box_store 25 wr nodeZ (nfCells f' (.slice ka' kl' kc') (.slice a' sl' sc'))
   unfold nodeZ at hst2
   generalize World.setRow _ _ _=w2 at hst2 ⊢
   obtain ⟨hbox2,hbel2⟩:=hst2
   have q0:=hbox2.cell 0 _ rfl
   have hbw2:=hbw.trans (hbel2.mono hbw.size)
   have HN2:=hQ (HN.out f'.name w2 hbw2 v2)
   rw[v1] at HN2
   clear hcell'
   go_wp2_with fail
   refine HN2.out.mono ?_
   rintro e w3 ⟨rfl,hb3⟩
   have hown3:=own_below' (own_below' HOWN.out hbel2) hb3
   have hboxK:=(HBOX.out.step hbel2).step hb3
   have hbw3:=hbw2.trans (hb3.mono hbw2.size)
   have co:=hown3.cellAt k (by omega)
   have hol:=ordL_len kids.length k (by omega)
   rw[List.getElem?_eq_getElem (by omega)] at co
   have fo:=hown3.frozenAt k
   have hst:=hown3.stored k (.int .i64 (k:Int))
   rw[ordL_set kids.length k hlt] at hst
   have HST:=hQ hst.1
   have hboxS:=hboxK.below hst.2 (fun e=>by injection e with e;exact hgbl e.symm)
   have hbS:=hbw3.grown hst.2 hbw3.size (fun j hj=>by injection hj with hj;have:=(hown3.lt gl rfl).1;omega)
   have HBS:=hQ hboxS
   have HWS:=hQ hbS
   clear hst hown3 hboxK hbw3 hboxS hbS HOWN HBOX hbw hbw2 hbel2 hbox2 q0 hb3 HN2
   go_wp2
   go_roundw
   case rel=>exact ⟨k+1,by omega,by go_num,HST.out,HBS.out,HWS.out⟩
   case measure=>simp[intOf];omega
  ·have hi1:(kids.length:Int)≤k:=by omega
   have hk':k=kids.length:=by omega
   rw[hk',ordL_full] at hown
   have c0:=hbox.cell 0 _ rfl
   have HS:=hQ (HSORT.out wr gl w.heap.size hbw hown c0 hgbl)
   have HOWN:=hQ hown
   have HBOX:=hQ hbox
   clear hown hbox hk' HN HSORT c0
   go_wp2_with fail
   refine HS.out.mono ?_
   rintro e w4 ⟨rfl,hb4⟩
   have hown4:=own_below' HOWN.out hb4
   have hbox4:=HBOX.out.step hb4
   have hbw4:=hbw.trans (hb4.mono hbw.size)
   have c0:=hbox4.cell 0 _ rfl
   have HO4:=hQ hown4
   have hmm:=fun W:World=>run_makeMap (P:=Tryz.prog) 391 W
   clear HOWN HBOX hbw hb4 hown4 HS
   go_upto_region 15 with (first
    |(at_make;refine wpList_make_full _ rfl _ _ 44 rfl w.heap.size 9 i0 (.string ⟨#[]⟩) 1 Tryz.underlying44 hi hz0 hz1 .i64 .i64 _ _ kids.length rfl rfl rfl rfl (by rw[hz2];omega) (by unfold maxLen;omega) hbw4.size ?_;intro w5 hown5 hgrow5)
    |go_in)
   rw[madeStr] at hown5
   have hb5:=hbw4.grown hgrow5 hbw4.size (fun j hj=>by cases hj)
   have hl5:=HO4.out.kept hgrow5 (.inr (by simp[Value.ownBlock]))
   have hbox5:=hbox4.below hgrow5 (by simp)
   have hgO:=(hown5.lt w4.heap.size rfl).2
   have hgl4:=(HO4.out.lt gl rfl).2
   have hgbl2:w.heap.size<gl:=by have:=(HO4.out.lt gl rfl).1;omega
   generalize hGO:w4.heap.size=gO at*
   have HI:=hQ (show NmR w w.heap.size gl gO w5.heap.size kids.length kc ka (kidNames n kids) 0 (w5.alloc (.map #[] 0)) from
    ⟨by rw[outL_zero];exact hown5.alloc _,hl5.alloc _,hbox5.step (below_alloc1 _ _),⟨_,World.ownsMap_made _ _ _ _⟩,hb5.alloc hb5.size _⟩)
   have HORD:=hQ (show w.heap.size<gl∧gl<gO∧gO<w5.heap.size from ⟨hgbl2,by omega,hgO⟩)
   have hln0:=((hl5.alloc (.map #[] 0)))
   clear hown5 hgrow5 hb5 hl5 hbox5 hgO hgl4 hgbl2 hGO c0 HO4 hbox4 hbw4 HROW
   generalize hW6:w5.alloc (.map #[] 0)=w6 at*
   generalize w5.heap.size=gm at*
   clear hW6 hln0 hmm
   go_wp2_with fail
   go_loopw [50] (fun i wr=> ∃k:Nat,k≤kids.length∧i= .int .i64 k∧NmR w w.heap.size gl gO gm kids.length kc ka (kidNames n kids) k wr) (fun i _=>kids.length-(intOf i).toNat)
   case atStart=>exact ⟨0,Nat.zero_le _,rfl,HI.out⟩
   case round=>
    rename_i wr0 wr hrel
    obtain ⟨k,hk,rfl,ho,hln,hbox,⟨D,hD⟩,hbw⟩:=hrel
    clear HI
    by_cases hlt:k<kids.length
    ·have hi1:(k:Int)<kids.length:=by omega
     have hi0:(0:Int)≤k:=by omega
     have c0:=hbox.cell 0 _ rfl
     have hgord:=HORD.out
     have cl:=hln.cellAt k (by omega)
     rw[intsV,List.getElem?_map,List.getElem?_range hlt] at cl
     replace cl:wr.cell? ⟨gl,k,none⟩=some (.int .i64 (k:Int)):=cl
     obtain ⟨b,off,rfl,hbB,d0⟩:=HNAME.out wr hbw k hlt
     have hnz:=(HKN.out k hlt)
     have HZ:=hQ (show (ntF n kids[k]).name.size≤maxLen from by have:=(HV.out k hlt).2;unfold maxLen;omega)
     have HNMK:=hQ hnz
     have HO:=hQ ho
     have HLN:=hQ hln
     have HBX:=hQ hbox
     have HD:=hQ hD
     have HGUARD:=hQ (show ∀k',k=k'+1→ ∃nm',wr.cell? ⟨gl,k',none⟩=some (.int .i64 (k':Int))∧wr.cell? ⟨b,off+k'*12,none⟩=some (.string nm')∧(nm'.toList==(ntF n kids[k]).name.toList)=false from fun k' hk'=>by
      obtain ⟨b',off',e1,e2,e3⟩:=HNAME.out wr hbw k' (by omega)
      injection e1 with e1
      injection e1 with e1 e4
      subst e1 e4
      have c2:=hln.cellAt k' (by omega)
      rw[intsV,List.getElem?_map,List.getElem?_range (by omega)] at c2
      exact ⟨_,c2,e3,HNE.out k' k (by omega) hlt⟩)
     clear ho hln hbox hD hnz
     generalize (ntF n kids[k]).name=nm at*
     go_upto_if 73 with (fail)
     go_cut [73] (fun c73 wx=>c73= .bool false∧ ∃q,wx=wr.drewN q)
     case first=>
      rcases k with _|k'
      ·go_wp2_with fail
       go_quiet (fail)
       go_wp2_with fail
       go_meet
       case rel=>exact ⟨rfl,_,rfl⟩
      ·obtain ⟨nm',g1,g2,g3⟩:=HGUARD.out k' rfl
       have hk1:(k':Int)<kids.length:=by omega
       have hk0:(0:Int)≤k':=by omega
       have e1:((k'+1:Nat):Int)=(k':Int)+1:=by omega
       have e2:(k':Int)+1-1=k':=by omega
       have e3:(0:Int)<(k':Int)+1:=by omega
       rw[e1] at cl hi1
       rw[e1]
       go_wp2_with fail
       go_quiet (fail)
       go_wp2_with fail
       go_meet
       case rel=>exact ⟨rfl,_,rfl⟩
     case rest=>
      obtain ⟨rfl,q,rfl⟩:=hcut
      have hbd:=below_drewN (Below.refl wr.heap.size wr) q
      have ho8:=own_below' HO.out hbd
      have hln8:=own_below' HLN.out hbd
      have hbox8:=HBX.out.step hbd
      have hD8:(wr.drewN q).ownsMap Tryz.prog 9 (plainElem Tryz.prog 4) gm k D:=by
       obtain ⟨es,clock,x1,F,x2,x3⟩:=HD.out
       exact ⟨es,clock,x1,F,x2,x3⟩
      have hbw8:=hbw.trans (hbd.mono hbw.size)
      have d8:(wr.drewN q).cell? ⟨b,off+k*12,none⟩=some (.string nm):=d0
      clear c0 cl d0 HO HLN HBX HD HGUARD hbw hbd
      generalize wr.drewN q=w8 at*
      have c0:=hbox8.cell 0 _ rfl
      have HO:=hQ ho8
      have HLN:=hQ hln8
      have HBX:=hQ hbox8
      have HBW:=hQ hbw8
      have hmk:=WideMaps.keyOf_string_mk (s:=nm) Tryz.underlying9 HZ.out
      clear ho8 hln8 hbox8 hbw8
      go_wp2_with (first
       |(at_mapUpdate;refine wpList_mapUpdate_own _ rfl _ _ _ 391 rfl 9 4 mapLawS Tryz.underlying391 _ gm k D rfl hD8 (by unfold maxLen;omega) _ _ (.string nm.data.toList) rfl rfl hmk _ [] (plainElem_bool Tryz.underlying4 true) ?_)
       |go_in)
      intro w9 hm9 hg9
      have ho9:=HO.out.kept hg9 (.inr (by show some gO≠some gm;intro e;injection e;omega))
      have hln9:=HLN.out.kept hg9 (.inr (by show some gl≠some gm;intro e;injection e;omega))
      have hbox9:=HBX.out.below hg9 (by intro e;injection e;omega)
      have hgm:w.heap.size≤gm:=by omega
      have hbw9:=HBW.out.grown hg9 HBW.out.size (fun j hj=>by injection hj with hj;omega)
      have co:=ho9.cellAt k (by omega)
      have hol:(outL (kidNames n kids) kids.length k).length=kids.length:=by have h:=outL_len (kidNames n kids) k (by omega);rw[hnl] at h;exact h
      rw[List.getElem?_eq_getElem (by omega)] at co
      have fo:=ho9.frozenAt k
      have hst:=ho9.stored k (.string nm)
      have hl10:=hln9.kept hst.2 (.inr (by show some gl≠some gO;intro e;injection e;omega))
      have hbox10:=hbox9.below hst.2 (by intro e;injection e;omega)
      have hb10:=hbw9.grown hst.2 hbw9.size (fun j hj=>by injection hj with hj;omega)
      have hm10:=hm9.kept hst.2 (by intro e;injection e;omega)
      have HR:=hQ (show NmR w w.heap.size gl gO gm kids.length kc (some ⟨b,off,none⟩) (kidNames n kids) (k+1) (w9.setCell ⟨gO,k,none⟩ (.string nm)) from by
       have h:=outL_set (kidNames n kids) k (by omega)
       rw[HNMK.out,hnl] at h
       refine ⟨?_,hl10,hbox10,⟨_,hm10⟩,hb10⟩
       rw[←h];exact hst.1)
      clear hst hl10 hbox10 hb10 hm10 ho9 hln9 hbox9 hbw9 hm9 hg9 HO HLN HBX HBW c0 d8 hD8 hmk
      go_wp2_with fail
      clear co fo
      generalize w9.setCell _ _=w10 at*
      go_wp2
      go_roundw
      case rel=>exact ⟨k+1,by omega,by go_num,HR.out⟩
      case measure=>simp[intOf];omega
    ·have hi1:(kids.length:Int)≤k:=by omega
     have hk':k=kids.length:=by omega
     rw[hk'] at ho
     have h:=outL_full (kidNames n kids)
     rw[hnl] at h
     rw[h] at ho
     have HR:=hQ ho
     clear hln hbox hD ho h hk'
     go_wp2
     go_ret2
     exact ⟨gO,rfl,HR.out,hbw⟩
end Go.Proofs.YtbeccmkegckjjaaGreatDoor
end
