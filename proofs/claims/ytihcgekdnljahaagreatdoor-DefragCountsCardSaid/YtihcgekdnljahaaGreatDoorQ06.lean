/- Law 54, DefragCounts: a part of the proof. -/
import Derived.Lib.Hide
import Derived.Test.YtihcgekdnljahaaGreatDoorQ04
import Derived.WalkKit
import Derived.WalkSpells
import Derived.WalkLawsBesides
import Derived.Lib.Strings
import Derived.Laws.IdiomStrings
import Derived.Laws.AppendOwn
import Derived.OwnWalk
import Derived.KernelRfl
import Derived.Laws.Rows
import Derived.Laws.CopyRow
import Derived.Deep.WholeRow
import Derived.Deep.RegionLaw
import Derived.Deep.RegionHeld3
import Derived.Deep.AppendLies
import Derived.BigQuiet
section
namespace Go.Proofs.YtihcgekdnljahaaGreatDoor
theorem hQ{p:Prop}(h:p):Go.RowKit.Hid p:=Go.Lib.hid h
abbrev FileT:=ByteArray × Int × Int
def hasP(l:List ByteArray)(p:ByteArray):Bool:=l.any fun x=>decide (x=p)
theorem hasP_iff{l:List ByteArray}{p:ByteArray}:hasP l p=true↔p∈l:=by
 unfold hasP
 rw[List.any_eq_true]
 constructor
 ·rintro ⟨x,h1,h2⟩
  have:=of_decide_eq_true h2
  rwa [←this]
 ·exact fun h=>⟨p,h,decide_eq_true rfl⟩
def addP(out:List ByteArray)(f:FileT):List ByteArray:=if f.2.2=0 then out else if hasP out f.1 then out else out++[f.1]
def pathsOf(F:List FileT):List ByteArray:=F.foldl addP []
def cntOf(F:List FileT)(p:ByteArray):Nat:=(F.filter fun f=>decide (f.1=p)&&decide (f.2.2≠0)).length
def fullOf(F:List FileT):Nat:=(F.filter fun f=>decide (f.2.2≠0)).length
def fragOf(F:List FileT):List ByteArray:=(pathsOf F).filter fun p=>decide (1<cntOf F p)
def addA(out:List ByteArray)(f:FileT):List ByteArray:=if hasP out f.1 then out else out++[f.1]
def allOf(F:List FileT):List ByteArray:=F.foldl addA []
def blocksOf(n:Int):Int:=if n≤0 then 0 else (n-1) / 2048+1
def fileOk(f:FileT):Bool:=decide (0≤f.2.1)&&decide (0≤f.2.2)&&decide (f.2.1≤4096)&&decide (blocksOf f.2.2≤4096-f.2.1)
def costStep(c:Int × Int)(f:FileT):Int × Int:=if 0<f.2.2 then (c.1+max (f.2.1-c.2) (c.2-f.2.1),f.2.1+blocksOf f.2.2) else c
def ofPath(F:List FileT)(p:ByteArray):List FileT:=F.filter fun f=>decide (f.1=p)
def costOf(F:List FileT)(l:List ByteArray):Int × Int:=l.foldl (fun c p=>(ofPath F p).foldl costStep c) (0,0)
theorem pathsOf_snoc(F:List FileT)(f:FileT):pathsOf (F++[f])=addP (pathsOf F) f:=by simp[pathsOf]
theorem allOf_snoc(F:List FileT)(f:FileT):allOf (F++[f])=addA (allOf F) f:=by simp[allOf]
theorem cntOf_snoc(F:List FileT)(f:FileT)(p:ByteArray):cntOf (F++[f]) p=cntOf F p+if f.1=p∧f.2.2≠0 then 1 else 0:=by
 unfold cntOf
 rw[List.filter_append,List.length_append]
 congr 1
 by_cases h:f.1=p∧f.2.2≠0
 ·rw[if_pos h];simp[h.1,h.2]
 ·rw[if_neg h]
  have:(decide (f.1=p)&&decide (f.2.2≠0))=false:=by
   by_cases h1:f.1=p
   ·have h2:f.2.2=0:=Classical.byContradiction fun h2=>h ⟨h1,h2⟩
    simp[h2]
   ·simp[h1]
  rw[List.filter_cons_of_neg (by rw[this];decide)];rfl
theorem fullOf_snoc(F:List FileT)(f:FileT):fullOf (F++[f])=fullOf F+if f.2.2≠0 then 1 else 0:=by
 unfold fullOf
 rw[List.filter_append,List.length_append]
 congr 1
 by_cases h:f.2.2=0
 ·simp[h]
 ·simp[h]
theorem take_snocF{α:Type}(l:List α)(k:Nat)(h:k<l.length):l.take (k+1)=l.take k++[l[k]]:=by
 rw[List.take_add_one,List.getElem?_eq_getElem h];rfl
theorem pathsOf_take(F:List FileT)(k:Nat)(h:k<F.length):pathsOf (F.take (k+1))=addP (pathsOf (F.take k)) F[k]:=by rw[take_snocF F k h,pathsOf_snoc]
theorem allOf_take(F:List FileT)(k:Nat)(h:k<F.length):allOf (F.take (k+1))=addA (allOf (F.take k)) F[k]:=by rw[take_snocF F k h,allOf_snoc]
theorem mem_addP{out:List ByteArray}{f:FileT}{p:ByteArray}:p∈addP out f↔p∈out∨(f.2.2≠0∧f.1=p):=by
 unfold addP
 by_cases h:f.2.2=0
 ·simp[h]
 ·rw[if_neg h]
  by_cases h2:f.1∈out
  ·rw[if_pos (hasP_iff.2 h2)]
   constructor
   ·exact .inl
   ·rintro (h3|⟨_,rfl⟩)
    ·exact h3
    ·exact h2
  ·rw[if_neg (fun e=>h2 (hasP_iff.1 e))]
   simp[h,eq_comm]
theorem snoc_ind{α:Type}{motive:List α→Prop}(nil:motive [])(snoc: ∀l x,motive l→motive (l++[x]))(l:List α):motive l:=by
 have h: ∀r:List α,motive r.reverse:=by
  intro r
  induction r with
  |nil=>exact nil
  |cons x r ih=>rw[List.reverse_cons];exact snoc _ _ ih
 have:=h l.reverse
 rwa [List.reverse_reverse] at this
theorem mem_pathsOf(F:List FileT)(p:ByteArray):p∈pathsOf F↔0<cntOf F p:=by
 refine snoc_ind (motive:=fun F=>p∈pathsOf F↔0<cntOf F p) (by simp[pathsOf,cntOf]) (fun F f ih=>?_) F
 rw[pathsOf_snoc,mem_addP,cntOf_snoc,ih]
 by_cases h:f.1=p∧f.2.2≠0
 ·rw[if_pos h]
  exact ⟨fun _=>by omega,fun _=> .inr ⟨h.2,h.1⟩⟩
 ·rw[if_neg h]
  constructor
  ·rintro (h1|⟨h1,h2⟩)
   ·omega
   ·exact absurd ⟨h2,h1⟩ h
  ·intro h1;exact .inl (by omega)
theorem addP_nodup{out:List ByteArray}(f:FileT)(h:out.Nodup):(addP out f).Nodup:=by
 unfold addP
 split
 ·exact h
 ·split
  ·exact h
  ·rename_i h2
   exact List.nodup_append.2 ⟨h,by simp,fun a ha b hb e=>h2 (hasP_iff.2 (by simp at hb;rw[←hb, ←e];exact ha))⟩
theorem pathsOf_nodup(F:List FileT):(pathsOf F).Nodup:=snoc_ind (motive:=fun F=>(pathsOf F).Nodup) List.nodup_nil (fun F f ih=>by rw[pathsOf_snoc];exact addP_nodup f ih) F
def sumBy(g:ByteArray→Int):List ByteArray→Int
 |[]=>0
 |p::l=>g p+sumBy g l
theorem sumBy_append(g:ByteArray→Int)(l r:List ByteArray):sumBy g (l++r)=sumBy g l+sumBy g r:=by
 induction l with
 |nil=>simp[sumBy]
 |cons x l ih=>rw[List.cons_append,sumBy,ih,sumBy];omega
theorem sumBy_congr{g h:ByteArray→Int}{l:List ByteArray}(e: ∀p∈l,g p=h p):sumBy g l=sumBy h l:=by
 induction l with
 |nil=>rfl
 |cons x l ih=>rw[sumBy,sumBy,e x List.mem_cons_self,ih fun p hp=>e p (List.mem_cons_of_mem _ hp)]
theorem sumBy_bump{g:ByteArray→Int}{q:ByteArray}: ∀ {l:List ByteArray},l.Nodup→q∈l→sumBy (fun p=>g p+if q=p then 1 else 0) l=sumBy g l+1
 |[],_,h=>by cases h
 |x::l,hd,h=>by
  obtain ⟨h1,h2⟩:=List.nodup_cons.1 hd
  rw[sumBy,sumBy]
  by_cases e:q=x
  ·subst e
   rw[if_pos rfl,sumBy_congr (h:=g) fun p hp=>by
    have: ¬q=p:=fun e=>h1 (e▸hp)
    rw[if_neg this,Int.add_zero]]
   omega
  ·rw[if_neg e,sumBy_bump h2 ((List.mem_cons.1 h).resolve_left e)]
   omega
def fragsOf(F:List FileT):Int:=sumBy (fun p=>(cntOf F p:Int)-1) (pathsOf F)
theorem fragsOf_eq(F:List FileT):fragsOf F=(fullOf F:Int)-((pathsOf F).length:Int):=by
 have h0: ∀(g:ByteArray→Int) (l:List ByteArray),sumBy (fun p=>g p-1) l=sumBy g l-l.length:=fun g l=>by
  induction l with
  |nil=>rfl
  |cons x l ih=>rw[sumBy,ih,sumBy,List.length_cons];omega
 have h1:sumBy (fun p=>(cntOf F p:Int)) (pathsOf F)=fullOf F:=by
  refine snoc_ind (motive:=fun F=>sumBy (fun p=>(cntOf F p:Int)) (pathsOf F)=fullOf F) rfl (fun F f ih=>?_) F
  rw[fullOf_snoc,pathsOf_snoc]
  by_cases h:f.2.2=0
  ·have e1:addP (pathsOf F) f=pathsOf F:=if_pos h
   rw[e1,sumBy_congr (h:=fun p=>(cntOf F p:Int)) fun p _=>by rw[cntOf_snoc,if_neg (fun x=>x.2 h),Nat.add_zero],ih]
   simp[h]
  ·have e2: ∀p,((cntOf (F++[f]) p:Nat):Int)=(cntOf F p:Int)+if f.1=p then 1 else 0:=fun p=>by
    rw[cntOf_snoc]
    by_cases h2:f.1=p
    ·rw[if_pos ⟨h2,h⟩,if_pos h2];rfl
    ·rw[if_neg (fun x=>h2 x.1),if_neg h2];rfl
   rw[sumBy_congr fun p _=>e2 p]
   by_cases h2:f.1∈pathsOf F
   ·have e1:addP (pathsOf F) f=pathsOf F:=by unfold addP;rw[if_neg h,if_pos (hasP_iff.2 h2)]
    rw[e1,sumBy_bump (pathsOf_nodup F) h2,ih]
    simp[h]
   ·have e1:addP (pathsOf F) f=pathsOf F++[f.1]:=by unfold addP;rw[if_neg h,if_neg (fun e=>h2 (hasP_iff.1 e))]
    have h3:cntOf F f.1=0:=by
     have:=mt (mem_pathsOf F f.1).2 h2
     omega
    rw[e1,sumBy_append,sumBy_congr (h:=fun p=>(cntOf F p:Int)) fun p hp=>by
     have: ¬f.1=p:=fun e=>h2 (e▸hp)
     rw[if_neg this,Int.add_zero],ih]
    simp[sumBy,h3,h]
 unfold fragsOf
 rw[h0,h1]
end Go.Proofs.YtihcgekdnljahaaGreatDoor
end
section
namespace Go.Proofs.YtihcgekdnljahaaGreatDoor
open Go.RowKit Go.Lib
set_option maxRecDepth 1000000
set_option maxHeartbeats 6400000
def RowV(w:World)(p:Nat→Prop)(v:Value)(m:Nat)(cs:List (List Value)):Prop:=
 ∃(a:Option Addr) (c:Nat),v= .slice a cs.length c∧ ∀k,(h:k<cs.length)→ ∃b off,a=some ⟨b,off,none⟩∧p b∧ ∀j x,cs[k][j]? =some x→w.cell? ⟨b,off+k*m+j,none⟩=some x
theorem RowV.frame{w w':World}{p q:Nat→Prop}{v:Value}{m:Nat}{cs:List (List Value)}(h:RowV w p v m cs)(hb: ∀b,p b→q b∧ ∀o,w'.cell? ⟨b,o,none⟩=w.cell? ⟨b,o,none⟩):RowV w' q v m cs:=by
 obtain ⟨a,c,rfl,h⟩:=h
 refine ⟨a,c,rfl,fun k hk=>?_⟩
 obtain ⟨b,off,h1,h2,h3⟩:=h k hk
 exact ⟨b,off,h1,(hb b h2).1,fun j x hx=>((hb b h2).2 _).trans (h3 j x hx)⟩
theorem frame_below{B:Nat}{w w':World}(hb:Below B w w'): ∀b,b<B→b<B∧ ∀o,w'.cell? ⟨b,o,none⟩=w.cell? ⟨b,o,none⟩:=fun _ h=>⟨h,fun _=>hb.cell h⟩
theorem RowV.below{w w':World}{B:Nat}{v:Value}{m:Nat}{cs:List (List Value)}(h:RowV w (· < B) v m cs)(hb:Below B w w'):RowV w' (· < B) v m cs:=h.frame (frame_below hb)
theorem below_alloc1(w:World)(o:Obj):Below w.heap.size w (w.alloc o):=(Below.refl _ _).alloc (Nat.le_refl _) o
theorem info_str:(Tryz.prog.info? 9).map (fun i=>(i.zero,i.size,i.bytes))=some (some (.string ⟨#[]⟩),1,16):=by kernel_rfl
def strsV(l:List ByteArray):List Value:=l.map Value.string
theorem strsV_snoc(l:List ByteArray)(s:ByteArray):strsV (l++[s])=strsV l++[.string s]:=by simp[strsV]
theorem own_below'{w w':World}{base:Nat}{e:TypeId}{size:Nat}{v:Value}{n:Nat}{xs:List Value}(h:w.ownsRow base e size v n xs)(hb:Below w.heap.size w w'):w'.ownsRow base e size v n xs:=by
 obtain ⟨h1,h2⟩:=h
 refine ⟨h1,?_⟩
 rcases h2 with h2|⟨g,cap,cur,e1,e2,e3,e4⟩
 ·exact .inl h2
 ·refine .inr ⟨g,cap,cur,e1,e2,?_,e4⟩
  rw[hb.block g (Array.getElem?_eq_some_iff.1 e3).1,e3]
theorem own_slice{w:World}{base:Nat}{e:TypeId}{size:Nat}{v:Value}{n:Nat}{xs:List Value}(h:w.ownsRow base e size v n xs): ∃a c,v= .slice a n c:=by
 rcases h.2 with ⟨rfl,rfl⟩|⟨g,cap,cur,rfl,_⟩
 ·exact ⟨none,0,rfl⟩
 ·exact ⟨_,_,rfl⟩
theorem below_drew{B:Nat}{a w:World}(h:Below B a w):Below B a w.drew:=⟨h.os,h.tape,h.output,h.size,h.block⟩
theorem below_drewN'{B:Nat}{a w:World}(h:Below B a w)(n:Nat):Below B a (w.drewN n):=h.trans ⟨rfl,rfl,rfl,Nat.le_refl _,fun _ _=>rfl⟩
theorem heap_alloc_last(w:World)(o:Obj):(w.alloc o).heap[w.heap.size]? =some o:=by
 show (w.heap.push o)[w.heap.size]? =_
 simp
section
variable {P:Program}
end
def fileCells(l:List FileT):List (List Value):=l.map fun d=>[.string d.1, .int .i64 d.2.1, .int .i64 d.2.2]
def isInt(n:Int):Prop:= -9223372036854775808≤n∧n≤9223372036854775807
def strCells(l:List ByteArray):List (List Value):=l.map fun d=>[.string d]
theorem row_of_own{w:World}{base:Nat}{e:TypeId}{v:Value}{l:List ByteArray}(h:w.ownsRow base e 1 v l.length (strsV l)):RowV w (· < w.heap.size) v 1 (strCells l):=by
 have hlen:(strCells l).length=l.length:=by simp[strCells]
 rcases h.2 with ⟨rfl,h0⟩|⟨g,cap,cur,rfl,hg,hh,h1,h2,h3,h4⟩
 ·have:l=[]:=List.length_eq_zero_iff.1 h0
  subst this
  exact ⟨none,0,rfl,fun k hk=>by simp[strCells] at hk⟩
 ·refine ⟨some ⟨g,0,none⟩,cap,by rw[hlen],fun k hk=>⟨g,0,rfl,(Array.getElem?_eq_some_iff.1 hh).1,fun j x hx=>?_⟩⟩
  rw[hlen] at hk
  have hj:j=0:=by
   cases j with
   |zero=>rfl
   |succ j=>simp[strCells] at hx
  subst hj
  have hx':x= .string l[k]:=by simpa[strCells] using hx.symm
  subst hx'
  rw[cell_of_row _ _ _ _ _ (0,0) hh]
  have e1:(cur.toList.take (l.length*1))[k]? =some (.string l[k]):=by rw[h4];simp[strsV,hk]
  rw[List.getElem?_take_of_lt (by omega)] at e1
  simpa using e1
theorem neS{q p:ByteArray}(h: ¬q=p):(q.toList==p.toList)=false:=by
 rw[ByteArray.toList_eq,ByteArray.toList_eq]
 refine beq_eq_false_iff_ne.2 fun e=>h ?_
 obtain ⟨⟨a⟩⟩:=q
 obtain ⟨⟨b⟩⟩:=p
 simpa using e
theorem hasP_take(l:List ByteArray)(p:ByteArray)(k:Nat)(h:k<l.length):hasP (l.take (k+1)) p=(hasP (l.take k) p||decide (l[k]=p)):=by
 rw[take_snocF l k h];unfold hasP;rw[List.any_append];simp
theorem r_has(l:List ByteArray)(p:ByteArray)(v:Value)(B:Nat)(w:World)(hv:RowV w (· < B) v 1 (strCells l))(hl:l.length≤1100):
 Calls Tryz.prog 44 #[v, .string p] w fun e w'=>e= .returned (.bool (hasP l p))∧w'=w:=by
 obtain ⟨a,c,rfl,hrow⟩:=hv
 have hlen:(strCells l).length=l.length:=by simp[strCells]
 have HROW:=hQ (show ∀k,(h:k<l.length)→ ∃b off,a=some ⟨b,off,none⟩∧w.cell? ⟨b,off+k,none⟩=some (.string l[k]) from fun k h=>by
  obtain ⟨b,off,h1,h2,h3⟩:=hrow k (by omega)
  refine ⟨b,off,h1,?_⟩
  have:=h3 0 (.string l[k]) (by simp[strCells])
  simpa using this)
 rw[hlen]
 clear hrow hlen
 go_enter Tryz.func44,Tryz.ntmps44
 go_wp2_with fail
 go_loopw [5] (fun i wr=> ∃k:Nat,i= .int .i64 k∧k≤l.length∧hasP (l.take k) p=false∧wr=w) (fun i _=>l.length-(RowKit.intOf i).toNat)
 case atStart=>exact ⟨0,rfl,Nat.zero_le _,rfl,rfl⟩
 case round=>
  obtain ⟨k,rfl,hk,hno,hw⟩:=hrel
  by_cases hlt:k<l.length
  ·have hi':(k:Int)<l.length:=by omega
   obtain ⟨b,off,rfl,hc⟩:=HROW.out k hlt
   have hc0:wr.cell? ⟨b,off+k,none⟩=some (.string l[k]):=by rw[hw];exact hc
   clear hc
   have HW:=hQ hw
   clear hw
   by_cases he:l[k]=p
   ·have HB:=hQ (show hasP l p=true from hasP_iff.2 (he▸List.getElem_mem hlt))
    rw[he] at hc0
    clear hno
    go_wp2
    go_ret
    exact ⟨by rw[HB.out];rfl,HW.out⟩
   ·have HN:=hQ (show hasP (l.take (k+1)) p=false by rw[hasP_take l p k hlt,hno];simp[he])
    clear hno
    have hne:=neS he
    generalize l[k]=q at*
    clear he
    go_wp2
    go_roundw
    case rel=>exact ⟨k+1,by go_num,by omega,HN.out,HW.out⟩
    case measure=>simp[RowKit.intOf];omega
  ·have hk':k=l.length:=by omega
   subst hk'
   rw[List.take_of_length_le (Nat.le_refl _)] at hno
   have hge:(l.length:Int)≤l.length:=Int.le_refl _
   have HB:=hQ hno
   clear hno
   go_wp2
   go_ret
   exact ⟨by rw[HB.out];rfl,rfl⟩
end Go.Proofs.YtihcgekdnljahaaGreatDoor
end
section
namespace Go.Proofs.YtihcgekdnljahaaGreatDoor
open Go.RowKit Go.Lib
set_option maxRecDepth 1000000
set_option maxHeartbeats 6400000
theorem addP_len(out:List ByteArray)(f:FileT):(addP out f).length≤out.length+1:=by
 unfold addP
 split
 ·omega
 ·split
  ·omega
  ·simp
theorem pathsOf_len(F:List FileT):(pathsOf F).length≤F.length:=snoc_ind (motive:=fun F=>(pathsOf F).length≤F.length) (Nat.le_refl _) (fun F f ih=>by rw[pathsOf_snoc,List.length_append];have:=addP_len (pathsOf F) f;simp;omega) F
def OutP(L:Nat→List ByteArray)(n:Nat)(w:World)(out i:Value)(wr:World):Prop:=
 ∃k:Nat,i= .int .i64 k∧k≤n∧wr.ownsRow w.heap.size 9 1 out (L k).length (strsV (L k))∧Below w.heap.size w wr
theorem file_rows{F:List FileT}{v:Value}{B:Nat}{w:World}(hv:RowV w (· < B) v 3 (fileCells F)): ∃a c,v= .slice a F.length c∧ ∀k,(h:k<F.length)→ ∃b off,a=some ⟨b,off,none⟩∧b<B∧w.cell? ⟨b,off+k*3,none⟩=some (.string F[k].1)∧w.cell? ⟨b,off+k*3+1,none⟩=some (.int .i64 F[k].2.1)∧w.cell? ⟨b,off+k*3+2,none⟩=some (.int .i64 F[k].2.2):=by
 obtain ⟨a,c,rfl,hrow⟩:=hv
 have hlen:(fileCells F).length=F.length:=by simp[fileCells]
 refine ⟨a,c,by rw[hlen],fun k h=>?_⟩
 obtain ⟨b,off,h1,h2,h3⟩:=hrow k (by omega)
 exact ⟨b,off,h1,h2,h3 0 _ (by simp[fileCells]),h3 1 _ (by simp[fileCells]),h3 2 _ (by simp[fileCells])⟩
theorem r_paths(F:List FileT)(v:Value)(B:Nat)(w:World)(hv:RowV w (· < B) v 3 (fileCells F))(hB:B≤w.heap.size)(hl:F.length≤1100):
 Calls Tryz.prog 21 #[v] w fun e w'=> ∃o,e= .returned o∧w'.ownsRow w.heap.size 9 1 o (pathsOf F).length (strsV (pathsOf F))∧Below w.heap.size w w':=by
 obtain ⟨i0,hi,hz0,hz1,hz2⟩:=info_parts info_str
 obtain ⟨a,c,rfl,hrow⟩:=file_rows hv
 have HROW:=hQ hrow
 clear hrow hv
 go_enter Tryz.func21,Tryz.ntmps21
 go_wp2_with fail
 go_loopw [3,4] (fun out i wr=>OutP (fun k=>pathsOf (F.take k)) F.length w out i wr) (fun _ i _=>F.length-(RowKit.intOf i).toNat)
 case atStart=>exact ⟨0,rfl,Nat.zero_le _,World.ownsRow_nil ..,Below.refl _ _⟩
 case round=>
  obtain ⟨k,rfl,hk,hown,hbw⟩:=hrel
  replace hown:wr.ownsRow w.heap.size 9 1 _ (pathsOf (F.take k)).length (strsV (pathsOf (F.take k))):=hown
  by_cases hlt:k<F.length
  ·have hi':(k:Int)<F.length:=by omega
   obtain ⟨b,off,rfl,hbB,hc0,hc1,hc2⟩:=HROW.out k hlt
   have c0:=(hbw.cell (Nat.lt_of_lt_of_le hbB hB)).trans hc0
   have c2:=(hbw.cell (Nat.lt_of_lt_of_le hbB hB)).trans hc2
   clear hc0 hc1 hc2
   have HT:=hQ (pathsOf_take F k hlt)
   have HL:=hQ (show (pathsOf (F.take k)).length≤k by have:=pathsOf_len (F.take k);simp at this;omega)
   have HR:=hQ (r_has (pathsOf (F.take k)) F[k].1 _ _ wr (row_of_own hown) (by have:=HL.out;omega))
   obtain ⟨oa,oc,rfl⟩:=own_slice hown
   have HOWN:=hQ hown
   have HBW:=hQ hbw
   clear hown hbw
   by_cases hz:F[k].2.2=0
   ·have HE:=hQ (show pathsOf (F.take (k+1))=pathsOf (F.take k) by rw[HT.out];exact if_pos hz)
    rw[hz] at c2
    clear hz
    generalize F[k].1=p at*
    go_wp2
    go_roundw
    case rel=>exact ⟨k+1,by go_num,by omega,by show World.ownsRow _ _ _ _ _ (pathsOf (F.take (k+1))).length (strsV (pathsOf (F.take (k+1))));rw[HE.out];exact HOWN.out,HBW.out⟩
    case measure=>simp[RowKit.intOf];omega
   ·have HN:=hQ hz
    have hz':=hz
    generalize hL:pathsOf (F.take k)=L at*
    by_cases hp:hasP L F[k].1=true
    ·have HE:=hQ (show pathsOf (F.take (k+1))=L by rw[HT.out];unfold addP;rw[if_neg HN.out,if_pos hp])
     rw[hp] at HR
     clear hz hp HT
     generalize F[k].1=p at*
     generalize F[k].2.2=q at*
     go_wp2_with (first
      |(go_at_call 44;refine HR.out.mono ?_;rintro e wz ⟨rfl,hwz⟩;rw[hwz];clear hwz wz)
      |go_in)
     go_roundw
     case rel=>exact ⟨k+1,by go_num,by omega,by show World.ownsRow _ _ _ _ _ (pathsOf (F.take (k+1))).length (strsV (pathsOf (F.take (k+1))));rw[HE.out];exact HOWN.out,HBW.out⟩
     case measure=>simp[RowKit.intOf];omega
    ·have hp':hasP L F[k].1=false:=by simpa using hp
     have HE:=hQ (show pathsOf (F.take (k+1))=L++[F[k].1] by rw[HT.out];unfold addP;rw[if_neg HN.out,if_neg hp])
     have hLk:=HL.out
     rw[hp'] at HR
     clear hz hp hp' HT HL
     generalize F[k].1=p at*
     generalize F[k].2.2=q at*
     go_wp2_with (first
      |(at_builtin;refine wpList_append_own _ rfl _ _ 28 rfl w.heap.size 9 i0 (.string ⟨#[]⟩) 1 16 Tryz.underlying28 hi hz0 hz1 hz2 rfl (by decide) _ _ _ rfl (HOWN.out.alloc _) ⟨wr.heap.size,0,none⟩ 1 1 [.string p] rfl rfl ?_ ?_ ?_ ?_ ?_ ?_)
      |(go_at_call 44;refine HR.out.mono ?_;rintro e wz ⟨rfl,hwz⟩;rw[hwz];clear hwz wz)
      |go_in)
     ·intro j u hj
      match j,hj with
      |0,hj=>simp at hj;subst hj;exact new_one _ _ _ _ rfl
     ·intro u hu;simp at hu;subst hu;rfl
     ·unfold maxLen;omega
     ·omega
     ·exact (HBW.out.alloc HBW.out.size _).size
     ·intro v' w2 hown' hgrow _
      have hb2:=(HBW.out.alloc HBW.out.size _).grown hgrow (HBW.out.alloc HBW.out.size _).size (fun j hj=>(HOWN.out.lt j hj).1)
      have ho2:w2.ownsRow w.heap.size 9 1 v' (pathsOf (F.take (k+1))).length (strsV (pathsOf (F.take (k+1)))):=by
       rw[HE.out,strsV_snoc,List.length_append];exact hown'
      go_wp2
      go_roundw
      case rel=>exact ⟨k+1,by go_num,by omega,ho2,hb2⟩
      case measure=>simp[RowKit.intOf];omega
  ·have hk':k=F.length:=by omega
   subst hk'
   rw[List.take_of_length_le (Nat.le_refl _)] at hown
   have hge:(F.length:Int)≤F.length:=Int.le_refl _
   go_wp2
   go_ret
   exact ⟨_,rfl,hown,hbw⟩
end Go.Proofs.YtihcgekdnljahaaGreatDoor
end
section
namespace Go.Proofs.YtihcgekdnljahaaGreatDoor
open Go.RowKit Go.Lib
set_option maxRecDepth 1000000
set_option maxHeartbeats 6400000
theorem cntOf_len(F:List FileT)(p:ByteArray):cntOf F p≤F.length:=List.length_filter_le _ _
theorem cntOf_take(F:List FileT)(p:ByteArray)(k:Nat)(h:k<F.length):cntOf (F.take (k+1)) p=cntOf (F.take k) p+if F[k].1=p∧F[k].2.2≠0 then 1 else 0:=by rw[take_snocF F k h,cntOf_snoc]
theorem r_entries(F:List FileT)(p:ByteArray)(v:Value)(B:Nat)(w:World)(hv:RowV w (· < B) v 3 (fileCells F))(hl:F.length≤1100):
 Calls Tryz.prog 22 #[v, .string p] w fun e w'=>e= .returned (.int .i64 (cntOf F p))∧w'=w:=by
 obtain ⟨a,c,rfl,hrow⟩:=file_rows hv
 have HROW:=hQ hrow
 clear hrow hv
 go_enter Tryz.func22,Tryz.ntmps22
 go_wp2_with fail
 go_loopw [5,6] (fun n i wr=> ∃k:Nat,i= .int .i64 k∧k≤F.length∧n= .int .i64 (cntOf (F.take k) p:Nat)∧wr=w) (fun _ i _=>F.length-(RowKit.intOf i).toNat)
 case atStart=>exact ⟨0,rfl,Nat.zero_le _,rfl,rfl⟩
 case round=>
  obtain ⟨k,rfl,hk,rfl,hw⟩:=hrel
  have hcl:=cntOf_len (F.take k) p
  rw[List.length_take] at hcl
  by_cases hlt:k<F.length
  ·have hi':(k:Int)<F.length:=by omega
   obtain ⟨b,off,rfl,hbB,hc0,hc1,hc2⟩:=HROW.out k hlt
   rw[←hw] at hc0 hc2
   clear hc1
   have HW:=hQ hw
   clear hw
   have HT:=hQ (cntOf_take F p k hlt)
   by_cases he:F[k].1=p
   ·by_cases hz:F[k].2.2=0
    ·have HE:=hQ (show cntOf (F.take (k+1)) p=cntOf (F.take k) p by rw[HT.out,if_neg (fun x=>x.2 hz)];rfl)
     rw[he] at hc0
     rw[hz] at hc2
     clear he hz HT
     generalize cntOf (F.take k) p=n at*
     go_wp2
     go_roundw
     case rel=>exact ⟨k+1,by go_num,by omega,by rw[HE.out],HW.out⟩
     case measure=>simp[RowKit.intOf];omega
    ·have HE:=hQ (show cntOf (F.take (k+1)) p=cntOf (F.take k) p+1 by rw[HT.out,if_pos ⟨he,hz⟩])
     rw[he] at hc0
     clear he HT
     generalize cntOf (F.take k) p=n at*
     generalize F[k].2.2=q at*
     go_wp2
     go_roundw
     case rel=>exact ⟨k+1,by go_num,by omega,by rw[HE.out];go_num,HW.out⟩
     case measure=>simp[RowKit.intOf];omega
   ·have HE:=hQ (show cntOf (F.take (k+1)) p=cntOf (F.take k) p by rw[HT.out,if_neg (fun x=>he x.1)];rfl)
    have hne:=neS he
    clear he HT
    generalize cntOf (F.take k) p=n at*
    generalize F[k].1=q at*
    go_wp2
    go_roundw
    case rel=>exact ⟨k+1,by go_num,by omega,by rw[HE.out],HW.out⟩
    case measure=>simp[RowKit.intOf];omega
  ·have hk':k=F.length:=by omega
   subst hk'
   rw[List.take_of_length_le (Nat.le_refl _)]
   have hge:(F.length:Int)≤F.length:=Int.le_refl _
   go_wp2
   go_ret
   exact ⟨rfl,rfl⟩
end Go.Proofs.YtihcgekdnljahaaGreatDoor
end
section
namespace Go.Proofs.YtihcgekdnljahaaGreatDoor
open Go.RowKit Go.Lib
set_option maxRecDepth 1000000
set_option maxHeartbeats 6400000
theorem fullOf_len(F:List FileT):fullOf F≤F.length:=List.length_filter_le _ _
theorem fullOf_take(F:List FileT)(k:Nat)(h:k<F.length):fullOf (F.take (k+1))=fullOf (F.take k)+if F[k].2.2≠0 then 1 else 0:=by rw[take_snocF F k h,fullOf_snoc]
theorem r_fragments(F:List FileT)(v:Value)(B:Nat)(w:World)(hv:RowV w (· < B) v 3 (fileCells F))(hB:B≤w.heap.size)(hl:F.length≤1100):
 Calls Tryz.prog 11 #[v] w fun e w'=>e= .returned (.int .i64 (fragsOf F))∧Below w.heap.size w w':=by
 have HP:=hQ (r_paths F v B w hv hB hl)
 have HF:=hQ (fragsOf_eq F)
 have hpl:=pathsOf_len F
 have hfl:=fullOf_len F
 obtain ⟨a,c,rfl,hrow⟩:=file_rows hv
 have HROW:=hQ hrow
 clear hrow hv
 go_enter Tryz.func11,Tryz.ntmps11
 go_wp2_with fail
 go_loopw [3,4] (fun n i wr=> ∃k:Nat,i= .int .i64 k∧k≤F.length∧n= .int .i64 (fullOf (F.take k):Nat)∧wr=w) (fun _ i _=>F.length-(RowKit.intOf i).toNat)
 case atStart=>exact ⟨0,rfl,Nat.zero_le _,rfl,rfl⟩
 case round=>
  obtain ⟨k,rfl,hk,rfl,hw⟩:=hrel
  have hcl:=fullOf_len (F.take k)
  rw[List.length_take] at hcl
  by_cases hlt:k<F.length
  ·have hi':(k:Int)<F.length:=by omega
   obtain ⟨b,off,rfl,hbB,hc0,hc1,hc2⟩:=HROW.out k hlt
   rw[←hw] at hc2
   clear hc1 hc0
   have HW:=hQ hw
   clear hw
   have HT:=hQ (fullOf_take F k hlt)
   by_cases hz:F[k].2.2=0
   ·have HE:=hQ (show fullOf (F.take (k+1))=fullOf (F.take k) by rw[HT.out,if_neg (fun x=>x hz)];rfl)
    rw[hz] at hc2
    clear hz HT
    generalize fullOf (F.take k)=n at*
    go_wp2
    go_roundw
    case rel=>exact ⟨k+1,by go_num,by omega,by rw[HE.out],HW.out⟩
    case measure=>simp[RowKit.intOf];omega
   ·have HE:=hQ (show fullOf (F.take (k+1))=fullOf (F.take k)+1 by rw[HT.out,if_pos hz])
    clear HT
    generalize fullOf (F.take k)=n at*
    generalize F[k].2.2=q at*
    go_wp2
    go_roundw
    case rel=>exact ⟨k+1,by go_num,by omega,by rw[HE.out];go_num,HW.out⟩
    case measure=>simp[RowKit.intOf];omega
  ·have hk':k=F.length:=by omega
   subst hk'
   rw[List.take_of_length_le (Nat.le_refl _)]
   have hge:(F.length:Int)≤F.length:=Int.le_refl _
   rw[←hw] at HP
   have HW:=hQ hw
   clear hw
   go_wp2_with (first
    |(go_at_call 21;refine HP.out.mono ?_;rintro e wz ⟨o,rfl,hown,hbz⟩;obtain ⟨oa,oc,rfl⟩:=own_slice hown;have HB:=hQ hbz;clear hown hbz)
    |go_in)
   go_ret
   exact ⟨by rw[HF.out];first|rfl|go_num,by rw[←HW.out];exact HB.out⟩
end Go.Proofs.YtihcgekdnljahaaGreatDoor
end
section
namespace Go.Proofs.YtihcgekdnljahaaGreatDoor
open Go.RowKit Go.Lib
set_option maxRecDepth 1000000
set_option maxHeartbeats 6400000
theorem filter_take(l:List ByteArray)(f:ByteArray→Bool)(k:Nat)(h:k<l.length):(l.take (k+1)).filter f=(l.take k).filter f++if f l[k]=true then [l[k]] else []:=by
 rw[take_snocF l k h,List.filter_append]
 by_cases hf:f l[k]=true
 ·rw[if_pos hf];simp[hf]
 ·rw[if_neg hf];simp[hf]
theorem own_mono{w:World}{base base':Nat}{e:TypeId}{size:Nat}{v:Value}{n:Nat}{xs:List Value}(h:w.ownsRow base e size v n xs)(hb:base'≤base):w.ownsRow base' e size v n xs:=by
 obtain ⟨h1,h2⟩:=h
 refine ⟨h1,?_⟩
 rcases h2 with h2|⟨g,cap,cur,e1,e2,e3⟩
 ·exact .inl h2
 ·exact .inr ⟨g,cap,cur,e1,Nat.le_trans hb e2,e3⟩
theorem str_rows{L:List ByteArray}{v:Value}{B:Nat}{w:World}(hv:RowV w (· < B) v 1 (strCells L)): ∃a c,v= .slice a L.length c∧ ∀k,(h:k<L.length)→ ∃b off,a=some ⟨b,off,none⟩∧b<B∧w.cell? ⟨b,off+k,none⟩=some (.string L[k]):=by
 obtain ⟨a,c,rfl,hrow⟩:=hv
 have hlen:(strCells L).length=L.length:=by simp[strCells]
 refine ⟨a,c,by rw[hlen],fun k h=>?_⟩
 obtain ⟨b,off,h1,h2,h3⟩:=hrow k (by omega)
 refine ⟨b,off,h1,h2,?_⟩
 have:=h3 0 (.string L[k]) (by simp[strCells])
 simpa using this
theorem r_fragmented(F:List FileT)(v:Value)(B:Nat)(w:World)(hv:RowV w (· < B) v 3 (fileCells F))(hB:B≤w.heap.size)(hl:F.length≤1100):
 Calls Tryz.prog 9 #[v] w fun e w'=> ∃o,e= .returned o∧w'.ownsRow w.heap.size 9 1 o (fragOf F).length (strsV (fragOf F))∧Below w.heap.size w w':=by
 obtain ⟨i0,hi,hz0,hz1,hz2⟩:=info_parts info_str
 have HP:=hQ (r_paths F v B w hv hB hl)
 have hpl:=pathsOf_len F
 have HV:=hQ hv
 obtain ⟨a,c,rfl, -⟩:=file_rows hv
 clear hv
 go_enter Tryz.func9,Tryz.ntmps9
 go_wp2_with (first
  |(go_at_call 21;refine HP.out.mono ?_;rintro e w1 ⟨o,rfl,hown1,hb1⟩;obtain ⟨oa,oc,rfl,hrow1⟩:=str_rows (row_of_own hown1);have HROW:=hQ hrow1;clear hrow1;have HB1:=hQ hb1;clear hown1 hb1)
  |fail)
 go_loopw [3,5] (fun out i wr=>OutP (fun k=>((pathsOf F).take k).filter fun p=>decide (1<cntOf F p)) (pathsOf F).length w1 out i wr) (fun _ i _=>(pathsOf F).length-(RowKit.intOf i).toNat)
 case atStart=>exact ⟨0,rfl,Nat.zero_le _,World.ownsRow_nil ..,Below.refl _ _⟩
 case round=>
  obtain ⟨k,rfl,hk,hown,hbw⟩:=hrel
  replace hown:wr.ownsRow w1.heap.size 9 1 _ (((pathsOf F).take k).filter fun p=>decide (1<cntOf F p)).length (strsV (((pathsOf F).take k).filter fun p=>decide (1<cntOf F p))):=hown
  have HK:=hQ (show (((pathsOf F).take k).filter fun p=>decide (1<cntOf F p)).length≤k from Nat.le_trans (List.length_filter_le _ _) (by rw[List.length_take];omega))
  by_cases hlt:k<(pathsOf F).length
  ·have hi':(k:Int)<(pathsOf F).length:=by omega
   obtain ⟨b,off,rfl,hbB,hc0⟩:=HROW.out k hlt
   have c0:=(hbw.cell hbB).trans hc0
   clear hc0
   have HT:=hQ (filter_take (pathsOf F) (fun p=>decide (1<cntOf F p)) k hlt)
   have HE:=hQ (r_entries F (pathsOf F)[k] _ B wr ((HV.out.frame fun b hb=>⟨hb,fun o=>(hbw.cell (Nat.lt_of_lt_of_le (Nat.lt_of_lt_of_le hb hB) HB1.out.size)).trans (HB1.out.cell (Nat.lt_of_lt_of_le hb hB))⟩)) hl)
   have hcl:=cntOf_len F (pathsOf F)[k]
   generalize hL:((pathsOf F).take k).filter (fun p=>decide (1<cntOf F p))=L at*
   generalize hq:(pathsOf F)[k]=q at*
   obtain ⟨ua,uc,rfl⟩:=own_slice hown
   have HOWN:=hQ hown
   have HBW:=hQ hbw
   clear hown hbw
   by_cases hz:1<cntOf F q
   ·have HN:=hQ (show ((pathsOf F).take (k+1)).filter (fun p=>decide (1<cntOf F p))=L++[q] by rw[HT.out,if_pos (by simpa using hz)])
    have hz':(1:Int)<(cntOf F q:Nat):=by omega
    have hLk:=HK.out
    clear HT hL hq
    generalize cntOf F q=n at*
    go_wp2_with (first
     |(at_builtin;refine wpList_append_own _ rfl _ _ 28 rfl w1.heap.size 9 i0 (.string ⟨#[]⟩) 1 16 Tryz.underlying28 hi hz0 hz1 hz2 rfl (by decide) _ _ _ rfl (HOWN.out.alloc _) ⟨wr.heap.size,0,none⟩ 1 1 [.string q] rfl rfl ?_ ?_ ?_ ?_ ?_ ?_)
     |(go_at_call 22;refine HE.out.mono ?_;rintro e wz ⟨rfl,hwz⟩;rw[hwz];clear hwz wz)
     |go_in)
    ·intro j u hj
     match j,hj with
     |0,hj=>simp at hj;subst hj;exact new_one _ _ _ _ rfl
    ·intro u hu;simp at hu;subst hu;rfl
    ·unfold maxLen;omega
    ·omega
    ·exact (HBW.out.alloc HBW.out.size _).size
    ·intro v' w2 hown' hgrow _
     have hb2:=(HBW.out.alloc HBW.out.size _).grown hgrow (HBW.out.alloc HBW.out.size _).size (fun j hj=>(HOWN.out.lt j hj).1)
     have ho2:w2.ownsRow w1.heap.size 9 1 v' (((pathsOf F).take (k+1)).filter fun p=>decide (1<cntOf F p)).length (strsV (((pathsOf F).take (k+1)).filter fun p=>decide (1<cntOf F p))):=by
      rw[HN.out,strsV_snoc,List.length_append];exact hown'
     go_wp2
     go_roundw
     case rel=>exact ⟨k+1,by go_num,by omega,ho2,hb2⟩
     case measure=>simp[RowKit.intOf];omega
   ·have HN:=hQ (show ((pathsOf F).take (k+1)).filter (fun p=>decide (1<cntOf F p))=L by rw[HT.out,if_neg (by simpa using hz),List.append_nil])
    have hz':((cntOf F q:Nat):Int)≤1:=by omega
    clear HT hL hq
    generalize cntOf F q=n at*
    go_wp2_with (first
     |(go_at_call 22;refine HE.out.mono ?_;rintro e wz ⟨rfl,hwz⟩;rw[hwz];clear hwz wz)
     |go_in)
    go_roundw
    case rel=>exact ⟨k+1,by go_num,by omega,by show World.ownsRow _ _ _ _ _ (((pathsOf F).take (k+1)).filter fun p=>decide (1<cntOf F p)).length (strsV (((pathsOf F).take (k+1)).filter fun p=>decide (1<cntOf F p)));rw[HN.out];exact HOWN.out,HBW.out⟩
    case measure=>simp[RowKit.intOf];omega
  ·have hk':k=(pathsOf F).length:=by omega
   subst hk'
   rw[List.take_of_length_le (Nat.le_refl _)] at hown
   have hge:((pathsOf F).length:Int)≤(pathsOf F).length:=Int.le_refl _
   have HO:=hQ hown
   have HW:=hQ hbw
   clear hown hbw
   go_wp2
   go_ret
   exact ⟨_,rfl,own_mono HO.out HB1.out.size,HB1.out.trans (HW.out.mono HB1.out.size)⟩
end Go.Proofs.YtihcgekdnljahaaGreatDoor
end
section
namespace Go.Proofs.YtihcgekdnljahaaGreatDoor
open Go.RowKit Go.Lib
set_option maxRecDepth 1000000
set_option maxHeartbeats 6400000
theorem addA_len(out:List ByteArray)(f:FileT):(addA out f).length≤out.length+1:=by
 unfold addA
 split
 ·omega
 ·simp
theorem allOf_len(F:List FileT):(allOf F).length≤F.length:=snoc_ind (motive:=fun F=>(allOf F).length≤F.length) (Nat.le_refl _) (fun F f ih=>by rw[allOf_snoc,List.length_append];have:=addA_len (allOf F) f;simp;omega) F
theorem r_all(F:List FileT)(v:Value)(B:Nat)(w:World)(hv:RowV w (· < B) v 3 (fileCells F))(hB:B≤w.heap.size)(hl:F.length≤1100):
 Calls Tryz.prog 19 #[v] w fun e w'=> ∃o,e= .returned o∧w'.ownsRow w.heap.size 9 1 o (allOf F).length (strsV (allOf F))∧Below w.heap.size w w':=by
 obtain ⟨i0,hi,hz0,hz1,hz2⟩:=info_parts info_str
 obtain ⟨a,c,rfl,hrow⟩:=file_rows hv
 have HROW:=hQ hrow
 clear hrow hv
 go_enter Tryz.func19,Tryz.ntmps19
 go_wp2_with fail
 go_loopw [3,4] (fun out i wr=>OutP (fun k=>allOf (F.take k)) F.length w out i wr) (fun _ i _=>F.length-(RowKit.intOf i).toNat)
 case atStart=>exact ⟨0,rfl,Nat.zero_le _,World.ownsRow_nil ..,Below.refl _ _⟩
 case round=>
  obtain ⟨k,rfl,hk,hown,hbw⟩:=hrel
  replace hown:wr.ownsRow w.heap.size 9 1 _ (allOf (F.take k)).length (strsV (allOf (F.take k))):=hown
  by_cases hlt:k<F.length
  ·have hi':(k:Int)<F.length:=by omega
   obtain ⟨b,off,rfl,hbB,hc0,hc1,hc2⟩:=HROW.out k hlt
   have c0:=(hbw.cell (Nat.lt_of_lt_of_le hbB hB)).trans hc0
   clear hc0 hc1 hc2
   have HT:=hQ (allOf_take F k hlt)
   have HL:=hQ (show (allOf (F.take k)).length≤k by have:=allOf_len (F.take k);simp at this;omega)
   have HR:=hQ (r_has (allOf (F.take k)) F[k].1 _ _ wr (row_of_own hown) (by have:=HL.out;omega))
   obtain ⟨oa,oc,rfl⟩:=own_slice hown
   have HOWN:=hQ hown
   have HBW:=hQ hbw
   clear hown hbw
   generalize hL:allOf (F.take k)=L at*
   by_cases hp:hasP L F[k].1=true
   ·have HE:=hQ (show allOf (F.take (k+1))=L by rw[HT.out];exact if_pos hp)
    rw[hp] at HR
    clear hp HT
    generalize F[k].1=p at*
    go_wp2_with (first
     |(go_at_call 44;refine HR.out.mono ?_;rintro e wz ⟨rfl,hwz⟩;rw[hwz];clear hwz wz)
     |go_in)
    go_roundw
    case rel=>exact ⟨k+1,by go_num,by omega,by show World.ownsRow _ _ _ _ _ (allOf (F.take (k+1))).length (strsV (allOf (F.take (k+1))));rw[HE.out];exact HOWN.out,HBW.out⟩
    case measure=>simp[RowKit.intOf];omega
   ·have hp':hasP L F[k].1=false:=by simpa using hp
    have HE:=hQ (show allOf (F.take (k+1))=L++[F[k].1] by rw[HT.out];exact if_neg hp)
    have hLk:=HL.out
    rw[hp'] at HR
    clear hp hp' HT HL
    generalize F[k].1=p at*
    go_wp2_with (first
     |(at_builtin;refine wpList_append_own _ rfl _ _ 28 rfl w.heap.size 9 i0 (.string ⟨#[]⟩) 1 16 Tryz.underlying28 hi hz0 hz1 hz2 rfl (by decide) _ _ _ rfl (HOWN.out.alloc _) ⟨wr.heap.size,0,none⟩ 1 1 [.string p] rfl rfl ?_ ?_ ?_ ?_ ?_ ?_)
     |(go_at_call 44;refine HR.out.mono ?_;rintro e wz ⟨rfl,hwz⟩;rw[hwz];clear hwz wz)
     |go_in)
    ·intro j u hj
     match j,hj with
     |0,hj=>simp at hj;subst hj;exact new_one _ _ _ _ rfl
    ·intro u hu;simp at hu;subst hu;rfl
    ·unfold maxLen;omega
    ·omega
    ·exact (HBW.out.alloc HBW.out.size _).size
    ·intro v' w2 hown' hgrow _
     have hb2:=(HBW.out.alloc HBW.out.size _).grown hgrow (HBW.out.alloc HBW.out.size _).size (fun j hj=>(HOWN.out.lt j hj).1)
     have ho2:w2.ownsRow w.heap.size 9 1 v' (allOf (F.take (k+1))).length (strsV (allOf (F.take (k+1)))):=by
      rw[HE.out,strsV_snoc,List.length_append];exact hown'
     go_wp2
     go_roundw
     case rel=>exact ⟨k+1,by go_num,by omega,ho2,hb2⟩
     case measure=>simp[RowKit.intOf];omega
  ·have hk':k=F.length:=by omega
   subst hk'
   rw[List.take_of_length_le (Nat.le_refl _)] at hown
   have hge:(F.length:Int)≤F.length:=Int.le_refl _
   go_wp2
   go_ret
   exact ⟨_,rfl,hown,hbw⟩
end Go.Proofs.YtihcgekdnljahaaGreatDoor
end
section
namespace Go.Proofs.YtihcgekdnljahaaGreatDoor
open Go.RowKit Go.Lib
set_option maxRecDepth 1000000
set_option maxHeartbeats 6400000
theorem blocksOf_pos{n:Int}(h: ¬n≤0):blocksOf n=(n-1) / 2048+1:=if_neg h
theorem blocksOf_nn(n:Int):0≤blocksOf n:=by unfold blocksOf;split <;> omega
theorem blocksOf_le(n:Int)(h:n≤9223372036854775807):blocksOf n≤4503599627370496:=by unfold blocksOf;split <;> omega
theorem r_blocks(n:Int)(hn:isInt n)(w:World):
 Calls Tryz.prog 43 #[.int .i64 n] w fun e w'=>e= .returned (.int .i64 (blocksOf n))∧w'=w:=by
 obtain ⟨h1,h2⟩:=hn
 by_cases hz:n≤0
 ·have HE:=hQ (show blocksOf n=0 from if_pos hz)
  go_enter Tryz.func43,Tryz.ntmps43
  go_wp2
  go_ret
  exact ⟨by rw[HE.out];rfl,rfl⟩
 ·have HE:=hQ (blocksOf_pos hz)
  have hp:0≤n-1:=by omega
  have HD:=hQ (Int.tdiv_eq_ediv_of_nonneg (b:=2048) hp)
  clear hp
  go_enter Tryz.func43,Tryz.ntmps43
  go_wp2
  go_ret
  exact ⟨by rw[HE.out];rfl,rfl⟩
theorem p_blocks(n:Int)(hn:isInt n)(w:World):
 Calls Tryz.prog 41 #[.int .i64 n] w fun e w'=>e= .returned (.int .i64 (blocksOf n))∧w'=w:=by
 obtain ⟨h1,h2⟩:=hn
 by_cases hz:n≤0
 ·have HE:=hQ (show blocksOf n=0 from if_pos hz)
  go_enter Tryz.func41,Tryz.ntmps41
  go_wp2
  go_ret
  exact ⟨by rw[HE.out];rfl,rfl⟩
 ·have HE:=hQ (blocksOf_pos hz)
  have hp:0≤n-1:=by omega
  have HD:=hQ (Int.tdiv_eq_ediv_of_nonneg (b:=2048) hp)
  clear hp
  go_enter Tryz.func41,Tryz.ntmps41
  go_wp2
  go_ret
  exact ⟨by rw[HE.out];rfl,rfl⟩
theorem fileOk_eq(d:FileT):fileOk d=(decide (0≤d.2.1)&&decide (0≤d.2.2)&&decide (d.2.1≤4096)&&decide (blocksOf d.2.2≤4096-d.2.1)):=rfl
def fileV(d:FileT):Value:= .agg #[.string d.1, .int .i64 d.2.1, .int .i64 d.2.2]
theorem r_valid(d:FileT)(h1:isInt d.2.1)(h2:isInt d.2.2)(w:World):
 Calls Tryz.prog 42 #[fileV d] w fun e w'=>e= .returned (.bool (fileOk d))∧Below w.heap.size w w':=by
 have HB:=hQ (fun W:World=>r_blocks d.2.2 h2 W)
 have HO:=hQ (fileOk_eq d)
 have hb1:=blocksOf_nn d.2.2
 have hb2:=blocksOf_le d.2.2 h2.2
 generalize fileOk d=r at*
 obtain ⟨p,s,n⟩:=d
 simp only[] at*
 obtain ⟨s1,s2⟩:=h1
 obtain ⟨n1,n2⟩:=h2
 unfold fileV
 have hcell: ∀k:Nat, ∀v,(#[Value.string p, .int .i64 s, .int .i64 n]:Array Value)[k]? =some v→(w.alloc (.cells #[Value.string p, .int .i64 s, .int .i64 n] 33)).cell? ⟨w.heap.size,k,none⟩=some v:=by
  intro k v hv
  rw[World.cell?_alloc_at _ _ _ _ rfl];exact hv
 have c1:=hcell 1 _ rfl
 have c2:=hcell 2 _ rfl
 have HL:=hQ (below_alloc1 w (.cells #[Value.string p, .int .i64 s, .int .i64 n] 33))
 clear hcell
 generalize blocksOf n=m at*
 by_cases g1:0≤s
 ·by_cases g2:0≤n
  ·by_cases g3:s≤4096
   ·have HR:=hQ (show r=decide (m≤4096-s) by rw[HO.out];simp[g1,g2,g3])
    go_enter Tryz.func42,Tryz.ntmps42
    go_wp2_with fail
    go_quiet ((go_at_call 43;first|with_reducible exact Calls.quiet_of_same (HB.out _)))
    go_wp2
    go_ret
    exact ⟨by rw[HR.out];rfl,below_drewN' HL.out _⟩
   ·have d3:decide (s≤4096)=false:=decide_eq_false g3
    have HR:=hQ (show r=false by rw[HO.out,d3];simp)
    clear g3
    go_enter Tryz.func42,Tryz.ntmps42
    go_wp2_with fail
    go_quiet ((go_at_call 43;first|with_reducible exact Calls.quiet_of_same (HB.out _)))
    go_wp2
    go_ret
    exact ⟨by rw[HR.out];rfl,below_drewN' HL.out _⟩
  ·have d2:decide (0≤n)=false:=decide_eq_false g2
   have HR:=hQ (show r=false by rw[HO.out,d2];simp)
   clear g2
   go_enter Tryz.func42,Tryz.ntmps42
   go_wp2_with fail
   go_quiet ((go_at_call 43;first|with_reducible exact Calls.quiet_of_same (HB.out _)))
   go_wp2
   go_ret
   exact ⟨by rw[HR.out];rfl,below_drewN' HL.out _⟩
 ·have d1:decide (0≤s)=false:=decide_eq_false g1
  have HR:=hQ (show r=false by rw[HO.out,d1];simp)
  clear g1
  go_enter Tryz.func42,Tryz.ntmps42
  go_wp2_with fail
  go_quiet ((go_at_call 43;first|with_reducible exact Calls.quiet_of_same (HB.out _)))
  go_wp2
  go_ret
  exact ⟨by rw[HR.out];rfl,below_drewN' HL.out _⟩
end Go.Proofs.YtihcgekdnljahaaGreatDoor
end
section
namespace Go.Proofs.YtihcgekdnljahaaGreatDoor
open Go.RowKit Go.Lib
def costP(F:List FileT)(p:ByteArray)(c:Int × Int):Int × Int:=(ofPath F p).foldl costStep c
theorem costP_take(F:List FileT)(p:ByteArray)(c:Int × Int)(j:Nat)(h:j<F.length):costP (F.take (j+1)) p c=if F[j].1=p then costStep (costP (F.take j) p c) F[j] else costP (F.take j) p c:=by
 unfold costP ofPath
 rw[take_snocF F j h,List.filter_append]
 by_cases hp:F[j].1=p
 ·rw[if_pos hp];simp[hp]
 ·rw[if_neg hp];simp[hp]
theorem costOf_take(F:List FileT)(L:List ByteArray)(k:Nat)(h:k<L.length):costOf F (L.take (k+1))=costP F L[k] (costOf F (L.take k)):=by
 unfold costOf
 rw[take_snocF L k h,List.foldl_append]
 rfl
def hasF(F:List FileT)(p:ByteArray):Bool:=F.any fun f=>decide (f.1=p)
theorem hasF_take(F:List FileT)(p:ByteArray)(j:Nat)(h:j<F.length):hasF (F.take (j+1)) p=(hasF (F.take j) p||decide (F[j].1=p)):=by
 rw[take_snocF F j h];unfold hasF;rw[List.any_append];simp
theorem hasF_all{F:List FileT}{p:ByteArray}(h:p∈allOf F):hasF F p=true:=by
 have h2: ∀F:List FileT,p∈allOf F→hasF F p=true:=fun F=>snoc_ind (motive:=fun F=>p∈allOf F→hasF F p=true) (fun h=>by cases h) (fun F f ih h=>by
  rw[allOf_snoc] at h
  unfold addA at h
  unfold hasF at ih ⊢
  rw[List.any_append]
  split at h
  ·rw[ih h];rfl
  ·rw[List.mem_append] at h
   rcases h with h|h
   ·rw[ih h];rfl
   ·simp at h;subst h;simp) F
 exact h2 F h
theorem fileOk_parts{f:FileT}(h:fileOk f=true):0≤f.2.1∧0≤f.2.2∧f.2.1≤4096∧blocksOf f.2.2≤4096-f.2.1:=by
 unfold fileOk at h
 simpa[and_assoc] using h
def goodC(c:Int × Int)(n:Int):Prop:=0≤c.1∧c.1≤n∧0≤c.2∧c.2≤4096
theorem goodC_step{c:Int × Int}{n:Int}{f:FileT}(h:goodC c n)(hf:fileOk f=true):goodC (costStep c f) (n+4096):=by
 obtain ⟨h1,h2,h3,h4⟩:=h
 obtain ⟨f1,f2,f3,f4⟩:=fileOk_parts hf
 have hb:=blocksOf_nn f.2.2
 unfold costStep
 split
 ·refine ⟨?_,?_,?_,?_⟩ <;> simp only[] <;> omega
 ·refine ⟨?_,?_,?_,?_⟩ <;> omega
theorem goodC_mono{c:Int × Int}{n m:Int}(h:goodC c n)(hm:n≤m):goodC c m:=⟨h.1,Int.le_trans h.2.1 hm,h.2.2⟩
theorem costP_good{F:List FileT}{p:ByteArray}{c:Int × Int}{n:Int}(h:goodC c n)(hF:F.all fileOk=true):goodC (costP F p c) (n+4096*F.length):=by
 revert hF
 refine snoc_ind (motive:=fun F=>F.all fileOk=true→goodC (costP F p c) (n+4096*F.length)) (fun _=>by simpa[costP,ofPath] using h) (fun F f ih hF=>?_) F
 rw[List.all_append,Bool.and_eq_true] at hF
 have ih:=ih hF.1
 have hf:fileOk f=true:=by simpa using hF.2
 have e:costP (F++[f]) p c=if f.1=p then costStep (costP F p c) f else costP F p c:=by
  unfold costP ofPath
  rw[List.filter_append]
  by_cases hp:f.1=p
  ·rw[if_pos hp];simp[hp]
  ·rw[if_neg hp];simp[hp]
 rw[e,List.length_append]
 split
 ·exact goodC_mono (goodC_step ih hf) (by simp;omega)
 ·exact goodC_mono ih (by simp;omega)
theorem costOf_good{F:List FileT}(L:List ByteArray)(hl:F.length≤1024)(hF:F.all fileOk=true):goodC (costOf F L) (4194304*L.length):=by
 refine snoc_ind (motive:=fun L=>goodC (costOf F L) (4194304*L.length)) ⟨by simp[costOf],by simp[costOf],by simp[costOf],by simp[costOf]⟩ (fun L p ih=>?_) L
 have e:costOf F (L++[p])=costP F p (costOf F L):=by unfold costOf;rw[List.foldl_append];rfl
 rw[e,List.length_append]
 exact goodC_mono (costP_good ih hF) (by simp;omega)
def costRL(F:List FileT)(L:List ByteArray):Int × Int:=if 1024<F.length then (0,7) else if F.all fileOk then ((costOf F L).1,0) else (0,1)
theorem all_take{F:List FileT}{k:Nat}(h:k<F.length):(F.take (k+1)).all fileOk=((F.take k).all fileOk&&fileOk F[k]):=by
 rw[take_snocF F k h,List.all_append];simp
end Go.Proofs.YtihcgekdnljahaaGreatDoor
end
