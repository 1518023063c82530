/- Law 43, UdfbuildSizes: a part of the proof. -/
import Derived.Test.YtbeccmkegckjjaaGreatDoorQ46
import Derived.Test.YtbeccmkegckjjaaGreatDoorRows
import Derived.ChangeArms
import Derived.Deep.Slices
set_option linter.ambiguousOpen false
section
namespace Go.Proofs.YtbeccmkegckjjaaGreatDoor
open Go.RowKit Go.ChangeShapes Go.WideShapes Go.Deep
set_option maxRecDepth 1000000
set_option maxHeartbeats 3200000
theorem cellsNode:Tryz.prog.cellsOf 25=12:=by kernel_rfl
theorem cellsStream:Tryz.prog.cellsOf 122=2:=by kernel_rfl
theorem cellsStr:Tryz.prog.cellsOf 9=1:=by kernel_rfl
theorem cellsInt:Tryz.prog.cellsOf 3=1:=by kernel_rfl
theorem cellsKids:Tryz.prog.cellsOf 22=1:=by kernel_rfl
theorem cellsStrs:Tryz.prog.cellsOf 23=1:=by kernel_rfl
open Rows (uptoBulk uptoBulkAll)
section
variable {H:Type} {enc:TypeId × Value→H} {w:World} {base:Nat} {spare:Nat→Bool} {held:Bool}
theorem bulkAll_append(l r:List (DataW H)):uptoBulkAll (l++r)=uptoBulkAll l+uptoBulkAll r:=by
 induction l with
 |nil=>simp[uptoBulkAll]
 |cons a l ih=>simp only[List.cons_append,uptoBulkAll,ih];omega
theorem bulk_str(s:ByteArray):uptoBulk (.lit (.string s.data.toList):DataW H)=s.size+1:=by
 simp only[uptoBulk,Array.length_toList]
 rfl
theorem one_of_cells{cs:List Value}{i:Nat}{v:Value}(h:(cs.drop i).take 1=[v]):cs[i]? =some v:=by
 have h1:((cs.drop i).take 1)[0]? =some v:=by rw[h];rfl
 rw[List.getElem?_take,if_pos (by omega),List.getElem?_drop,Nat.add_zero] at h1
 exact h1
theorem open_streams{fuel:Nat}{cs:List Value}{x:DataW H × List MemPlace}(h:DataW.trod enc Tryz.prog w base spare held fuel 23 cs=some x):
 ∃(l:List (ByteArray × ByteArray)) (v:Value),cs=[v]∧RowV w (· < w.heap.size) v 2 (strCells l)∧(l.map fun s=>20+s.1.size+s.2.size).sum+1≤20*uptoBulk x.1:=by
 rcases DataW.trod_slice Tryz.underlying23 h with ⟨rfl,rfl⟩|⟨a,len,cap,elems,rest,n,rfl,rfl,rfl,hb,hl,hm,hlen,hel, -, -⟩
 ·exact ⟨[],_,rfl,⟨none,0,rfl,fun k hk=>by simp[strCells] at hk⟩,by simp[uptoBulk]⟩
 ·have each: ∀k,(hk:k<elems.length)→ ∃s1 s2:ByteArray,w.cell? (a.add (k*2))=some (.string s1)∧w.cell? (a.add (k*2+1))=some (.string s2)∧uptoBulk elems[k].1=s1.size+s2.size+3:=fun k hk=>by
   have h1:=hel k (by omega)
   rw[cellsStream,List.getElem?_eq_getElem hk] at h1
   rcases hcs:w.cells? base (a.add (k*2)) 2 with _|cs'
   ·rw[hcs] at h1;cases h1
   ·rw[hcs] at h1
    obtain ⟨-,h3,h4⟩:=World.cells?_some hcs
    obtain ⟨xs,k',rfl,hx,h6,h7,h8⟩:=DataW.trod_struct Tryz.underlying122 (show DataW.trod enc Tryz.prog w base spare held n 122 cs'=some elems[k] from h1)
    have g0:DataW.trod enc Tryz.prog w base spare held k' 9 ((cs'.drop 0).take (Tryz.prog.cellsOf 9))=xs[0]? :=h8 0 _ rfl
    have g1:DataW.trod enc Tryz.prog w base spare held k' 9 ((cs'.drop 1).take (Tryz.prog.cellsOf 9))=xs[1]? :=h8 1 _ rfl
    rw[cellsStr] at g0 g1
    match xs,h7 with
    |[y0,y1],_=>
     obtain ⟨s1,e1,e2, -⟩:=DataW.trod_string Tryz.underlying9 (show _=some y0 from g0)
     obtain ⟨s2,e3,e4, -⟩:=DataW.trod_string Tryz.underlying9 (show _=some y1 from g1)
     refine ⟨s1,s2,?_,?_,?_⟩
     ·have:=h4 0 (by omega)
      rw[one_of_cells e1] at this
      simpa[add_add] using this
     ·have:=h4 1 (by omega)
      rw[one_of_cells e3] at this
      rw[←this,add_add]
     ·rw[hx]
      subst e2 e4
      simp only[List.map_cons,List.map_nil,uptoBulk,uptoBulkAll]
      have:= @bulk_str H s1
      have:= @bulk_str H s2
      simp only[uptoBulk] at*
      omega
  have hex: ∃l:List (ByteArray × ByteArray),l.length=elems.length∧(∀k,(hk:k<l.length)→w.cell? (a.add (k*2))=some (.string l[k].1)∧w.cell? (a.add (k*2+1))=some (.string l[k].2))∧(l.map fun s=>20+s.1.size+s.2.size).sum≤20*uptoBulkAll (elems.map (·.1)):=by
   have hgo: ∀m,m≤elems.length→ ∃l:List (ByteArray × ByteArray),l.length=m∧(∀k,(hk:k<l.length)→w.cell? (a.add (k*2))=some (.string l[k].1)∧w.cell? (a.add (k*2+1))=some (.string l[k].2))∧(l.map fun s=>20+s.1.size+s.2.size).sum≤20*uptoBulkAll ((elems.take m).map (·.1)):=fun m=>by
    induction m with
    |zero=>intro _;exact ⟨[],rfl,fun k hk=>by simp at hk,by simp⟩
    |succ m ih=>
     intro hm
     obtain ⟨l,q1,q2,q3⟩:=ih (by omega)
     obtain ⟨s1,s2,e1,e2,e3⟩:=each m (by omega)
     refine ⟨l++[(s1,s2)],by simp[q1],fun k hk=>?_,?_⟩
     ·by_cases hkl:k<l.length
      ·rw[List.getElem_append_left hkl];exact q2 k hkl
      ·have hk':k=m:=by rw[List.length_append] at hk;simp at hk;omega
       subst hk'
       rw[List.getElem_append_right (by omega)]
       simp only[q1,Nat.sub_self,List.getElem_singleton]
       exact ⟨e1,e2⟩
     ·rw[List.map_append,List.sum_append,List.take_succ_eq_append_getElem (by omega),List.map_append,bulkAll_append]
      simp only[List.map_cons,List.map_nil,List.sum_cons,List.sum_nil,uptoBulkAll,e3]
      omega
   obtain ⟨l,q1,q2,q3⟩:=hgo elems.length (Nat.le_refl _)
   rw[List.take_length] at q3
   exact ⟨l,q1,q2,q3⟩
  obtain ⟨l,q1,q2,q3⟩:=hex
  refine ⟨l,_,rfl,⟨some a,cap,by rw[strCells_len,q1,hlen],fun k hk=>?_⟩,?_⟩
  ·rw[strCells_len] at hk
   obtain ⟨c0,c1⟩:=q2 k hk
   obtain ⟨b,off,spot⟩:=a
   have hs:spot=none:=by simpa[Addr.add] using World.cell?_spot (q2 0 (by omega)).1
   subst hs
   have ha: ∀m,(⟨b,off,none⟩:Addr).add m=⟨b,off+m,none⟩:=fun m=>by unfold Addr.add;split <;> simp_all
   rw[ha] at c0 c1
   refine ⟨b,off,rfl,World.block_lt_of_cell? _ _ c0,fun j x hx=>?_⟩
   rw[strCells_get _ _ hk] at hx
   match j,hx with
   |0,hx=>simp at hx;subst hx;exact c0
   |1,hx=>simp at hx;subst hx;rw[Nat.add_assoc];exact c1
  ·show _≤20*uptoBulk (.slice (elems.map (·.1)) (rest.map (·.1)))
   simp only[uptoBulk]
   omega
theorem open_node: ∀(fuel:Nat) (cs:List Value) (x:DataW H × List MemPlace),DataW.trod enc Tryz.prog w base spare held fuel 25 cs=some x→
 ∃(n:Nat) (t:NT n),NodeV w (· < w.heap.size) n t cs∧ntCount n t≤uptoBulk x.1∧ntBytes n t≤20*uptoBulk x.1:=fun fuel=>by
 induction fuel using Nat.strongRecOn with
 |_ fuel IH=>
 intro cs x h
 obtain ⟨xs,k,rfl,hx,hcl,hxl,hf⟩:=DataW.trod_struct Tryz.underlying25 h
 rw[cellsNode] at hcl
 have gS: ∀j,j<12→(hj:j=0∨j=2∨j=3)→ ∃y s,xs[j]? =some y∧cs[j]? =some (.string s)∧uptoBulk y.1=s.size+1:=fun j hj12 hj=>by
  have h1:DataW.trod enc Tryz.prog w base spare held k 9 ((cs.drop j).take (Tryz.prog.cellsOf 9))=xs[j]? :=by
   rcases hj with rfl|rfl|rfl
   ·exact hf 0 _ rfl
   ·exact hf 2 _ rfl
   ·exact hf 3 _ rfl
  rw[cellsStr] at h1
  have hl:j<xs.length:=by rw[hxl];exact hj12
  rw[List.getElem?_eq_getElem hl] at h1
  obtain ⟨s,e1,e2, -⟩:=DataW.trod_string Tryz.underlying9 h1
  exact ⟨xs[j],s,List.getElem?_eq_getElem hl,one_of_cells e1,by rw[e2];exact bulk_str s⟩
 have gI: ∀j,j<12→(hj:j=1∨j=4∨j=5∨j=6∨j=7∨j=8∨j=9)→ ∃y v,xs[j]? =some y∧cs[j]? =some (.int .i64 v):=fun j hj12 hj=>by
  have h1:DataW.trod enc Tryz.prog w base spare held k 3 ((cs.drop j).take (Tryz.prog.cellsOf 3))=xs[j]? :=by
   rcases hj with rfl|rfl|rfl|rfl|rfl|rfl|rfl
   ·exact hf 1 _ rfl
   ·exact hf 4 _ rfl
   ·exact hf 5 _ rfl
   ·exact hf 6 _ rfl
   ·exact hf 7 _ rfl
   ·exact hf 8 _ rfl
   ·exact hf 9 _ rfl
  rw[cellsInt] at h1
  have hl:j<xs.length:=by rw[hxl];exact hj12
  rw[List.getElem?_eq_getElem hl] at h1
  obtain ⟨v,e1, -, -⟩:=DataW.trod_int Tryz.underlying3 h1
  exact ⟨xs[j],v,List.getElem?_eq_getElem hl,one_of_cells e1⟩
 have hk10:DataW.trod enc Tryz.prog w base spare held k 22 ((cs.drop 10).take (Tryz.prog.cellsOf 22))=xs[10]? :=hf 10 _ rfl
 have hk11:DataW.trod enc Tryz.prog w base spare held k 23 ((cs.drop 11).take (Tryz.prog.cellsOf 23))=xs[11]? :=hf 11 _ rfl
 rw[cellsKids] at hk10
 rw[cellsStrs] at hk11
 obtain ⟨x0,x1,x2,x3,x4,x5,x6,x7,x8,x9,x10,x11,rfl⟩: ∃x0 x1 x2 x3 x4 x5 x6 x7 x8 x9 x10 x11,xs=[x0,x1,x2,x3,x4,x5,x6,x7,x8,x9,x10,x11]:=by
  match xs,hxl with
  |[x0,x1,x2,x3,x4,x5,x6,x7,x8,x9,x10,x11],_=>exact ⟨_,_,_,_,_,_,_,_,_,_,_,_,rfl⟩
 obtain ⟨y0,s0,f0,c0,b0⟩:=gS 0 (by omega) (by omega)
 obtain ⟨y2,s2,f2,c2,b2⟩:=gS 2 (by omega) (by omega)
 obtain ⟨y3,s3,f3,c3,b3⟩:=gS 3 (by omega) (by omega)
 obtain ⟨_,v1,_,c1⟩:=gI 1 (by omega) (by omega)
 obtain ⟨_,v4,_,c4⟩:=gI 4 (by omega) (by omega)
 obtain ⟨_,v5,_,c5⟩:=gI 5 (by omega) (by omega)
 obtain ⟨_,v6,_,c6⟩:=gI 6 (by omega) (by omega)
 obtain ⟨_,v7,_,c7⟩:=gI 7 (by omega) (by omega)
 obtain ⟨_,v8,_,c8⟩:=gI 8 (by omega) (by omega)
 obtain ⟨_,v9,_,c9⟩:=gI 9 (by omega) (by omega)
 simp at f0 f2 f3
 subst f0 f2 f3
 obtain ⟨l,sv,e11,hsv,hsb⟩:=open_streams (show _=some x11 from hk11)
 have c11:=one_of_cells e11
 have hkids: ∃(m:Nat) (kids:List (NT m)) (kv:Value) (kcs:List (List Value)),cs[10]? =some kv∧RowV w (· < w.heap.size) kv 12 kcs∧kcs.length=kids.length∧(∀j,(h:j<kids.length)→(h':j<kcs.length)→NodeV w (· < w.heap.size) m kids[j] kcs[j])∧(kids.map (ntCount m)).sum+1≤uptoBulk x10.1∧(kids.map (ntBytes m)).sum+20≤20*uptoBulk x10.1:=by
  have hk10':DataW.trod enc Tryz.prog w base spare held k 22 ((cs.drop 10).take 1)=some x10:=hk10
  rcases DataW.trod_slice Tryz.underlying22 hk10' with ⟨e,rfl⟩|⟨a,len,cap,elems,rest,n,rfl,e,rfl,hb,hl,hm,hlen,hel, -, -⟩
  ·exact ⟨0,[],_,[],one_of_cells e,⟨none,0,rfl,fun k hk=>by simp at hk⟩,rfl,fun j h=>by simp at h,by simp[uptoBulk],by simp[uptoBulk]⟩
  ·have each: ∀j,(hj:j<elems.length)→ ∃(cs':List Value) (m:Nat) (t:NT m),(∀i,i<12→w.cell? ((a.add (j*12)).add i)=cs'[i]?)∧cs'.length=12∧NodeV w (· < w.heap.size) m t cs'∧ntCount m t≤uptoBulk elems[j].1∧ntBytes m t≤20*uptoBulk elems[j].1:=fun j hj=>by
    have h1:=hel j (by omega)
    rw[cellsNode,List.getElem?_eq_getElem hj] at h1
    rcases hcs:w.cells? base (a.add (j*12)) 12 with _|cs'
    ·rw[hcs] at h1;cases h1
    ·rw[hcs] at h1
     obtain ⟨-,h3,h4⟩:=World.cells?_some hcs
     obtain ⟨m,t,q1,q2,q3⟩:=IH n (by omega) cs' elems[j] h1
     exact ⟨cs',m,t,h4,h3,q1,q2,q3⟩
   have hgo: ∀r,r≤elems.length→ ∃(m:Nat) (kids:List (NT m)) (kcs:List (List Value)),kids.length=r∧kcs.length=r∧(∀j,(h:j<kcs.length)→ ∀i,i<12→w.cell? ((a.add (j*12)).add i)=kcs[j][i]?)∧(∀j,(h:j<kids.length)→(h':j<kcs.length)→kcs[j].length=12∧NodeV w (· < w.heap.size) m kids[j] kcs[j])∧
    (kids.map (ntCount m)).sum≤uptoBulkAll ((elems.take r).map (·.1))∧(kids.map (ntBytes m)).sum≤20*uptoBulkAll ((elems.take r).map (·.1)):=fun r=>by
    induction r with
    |zero=>intro _;exact ⟨0,[],[],rfl,rfl,fun j h=>by simp at h,fun j h=>by simp at h,by simp,by simp⟩
    |succ r ih=>
     intro hr
     obtain ⟨m,kids,kcs,q1,q2,q3,q4,q5,q6⟩:=ih (by omega)
     obtain ⟨cs',m',t,r1,r1',r2,r3,r4⟩:=each r (by omega)
     obtain ⟨t',u1,u2,u3⟩:=nt_cut m' t (max m m') (Nat.le_trans (ntLevels_le m' t) (Nat.le_max_right _ _))
     have hlift: ∀(l:List (NT m)), ∃l':List (NT (max m m')), ∃hl:l'.length=l.length,l'.map (ntCount _)=l.map (ntCount m)∧l'.map (ntBytes _)=l.map (ntBytes m)∧ ∀k,(hk:k<l.length)→ ∀(w:World) (p:Nat→Prop) (vs:List Value),NodeV w p m l[k] vs→NodeV w p (max m m') (l'[k]'(by omega)) vs:=fun l=>by
      induction l with
      |nil=>exact ⟨[],rfl,rfl,rfl,fun k hk=>by simp at hk⟩
      |cons y l ih=>
       obtain ⟨l',z1,z2,z3,z4⟩:=ih
       obtain ⟨y',e1,e2,e3⟩:=nt_cut m y (max m m') (Nat.le_trans (ntLevels_le m y) (Nat.le_max_left _ _))
       refine ⟨y'::l',by simp[z1],by rw[List.map_cons,List.map_cons,e1,z2],by rw[List.map_cons,List.map_cons,e2,z3],fun k hk w p vs hv=>?_⟩
       cases k with
       |zero=>exact e3 w p vs hv
       |succ k=>exact z4 k (by simpa using hk) w p vs hv
     obtain ⟨kids',z1,z2,z3,z4⟩:=hlift kids
     refine ⟨max m m',kids'++[t'],kcs++[cs'],by simp[z1,q1],by simp[q2],fun j hj i hi=>?_,fun j hj hj'=>?_,?_,?_⟩
     ·by_cases hjl:j<kcs.length
      ·rw[List.getElem_append_left hjl];exact q3 j hjl i hi
      ·have hj':j=r:=by rw[List.length_append] at hj;simp at hj;omega
       subst hj'
       rw[List.getElem_append_right (by omega)]
       simp only[q2,Nat.sub_self,List.getElem_singleton]
       exact r1 i hi
     ·by_cases hjl:j<kcs.length
      ·rw[List.getElem_append_left (show j<kcs.length from hjl),List.getElem_append_left (show j<kids'.length by omega)]
       obtain ⟨w1,w2⟩:=q4 j (by omega) hjl
       exact ⟨w1,z4 j (by omega) _ _ _ w2⟩
      ·have hj2:j=r:=by rw[List.length_append] at hj';simp at hj';omega
       subst hj2
       rw[List.getElem_append_right (show kcs.length≤j by omega),List.getElem_append_right (show kids'.length≤j by omega)]
       simp only[z1,q1,q2,Nat.sub_self,List.getElem_singleton]
       exact ⟨r1',u3 _ _ _ r2⟩
     ·rw[List.map_append,List.sum_append,z2,List.take_succ_eq_append_getElem (by omega),List.map_append,bulkAll_append]
      simp only[List.map_cons,List.map_nil,List.sum_cons,List.sum_nil,uptoBulkAll,u1]
      omega
     ·rw[List.map_append,List.sum_append,z3,List.take_succ_eq_append_getElem (by omega),List.map_append,bulkAll_append]
      simp only[List.map_cons,List.map_nil,List.sum_cons,List.sum_nil,uptoBulkAll,u2]
      omega
   obtain ⟨m,kids,kcs,q1,q2,q3,q4,q5,q6⟩:=hgo elems.length (Nat.le_refl _)
   rw[List.take_length] at q5 q6
   refine ⟨m,kids,_,kcs,one_of_cells e,⟨some a,cap,by rw[q2,hlen],fun j hj=>?_⟩,by omega,fun j h h'=>(q4 j h h').2,?_,?_⟩
   ·have hh:=(q4 j (by omega) hj).1
    have hc0: ∀j',(hj':j'<kcs.length)→ ∃v,w.cell? (a.add (j'*12))=some v:=fun j' hj'=>by
     have h1:=q3 j' hj' 0 (by omega)
     have h2:=(q4 j' (by omega) hj').1
     rw[List.getElem?_eq_getElem (by omega),add_add,Nat.add_zero] at h1
     exact ⟨_,h1⟩
    obtain ⟨b,off,spot⟩:=a
    obtain ⟨v0,hv0⟩:=hc0 0 (by omega)
    have hs:spot=none:=by simpa[Addr.add] using World.cell?_spot hv0
    subst hs
    have ha: ∀m,(⟨b,off,none⟩:Addr).add m=⟨b,off+m,none⟩:=fun m=>by unfold Addr.add;split <;> simp_all
    obtain ⟨vj,hvj⟩:=hc0 j hj
    rw[ha] at hvj
    refine ⟨b,off,rfl,World.block_lt_of_cell? _ _ hvj,fun i x hx=>?_⟩
    have hi:i<12:=by have:=(List.getElem?_eq_some_iff.1 hx).1;omega
    have h1:=q3 j hj i hi
    rw[add_add,ha, ←Nat.add_assoc] at h1
    rw[h1,hx]
   ·show _≤uptoBulk (.slice (elems.map (·.1)) (rest.map (·.1)))
    simp only[uptoBulk]
    omega
   ·show _≤20*uptoBulk (.slice (elems.map (·.1)) (rest.map (·.1)))
    simp only[uptoBulk]
    omega
 obtain ⟨m,kids,kv,kcs,c10,hrow,hkl,hnod,hcb,hbb⟩:=hkids
 refine ⟨m+1,(⟨s0,v1,s2,s3,v4,v5,v6,v7,v8,v9,l⟩,kids),⟨kv,sv,kcs,?_,hsv,hrow,hkl,hnod⟩,?_,?_⟩
 ·apply List.ext_getElem?
  intro i
  by_cases hi:i<12
  ·match i,hi with
   |0,_=>rw[c0];rfl
   |1,_=>rw[c1];rfl
   |2,_=>rw[c2];rfl
   |3,_=>rw[c3];rfl
   |4,_=>rw[c4];rfl
   |5,_=>rw[c5];rfl
   |6,_=>rw[c6];rfl
   |7,_=>rw[c7];rfl
   |8,_=>rw[c8];rfl
   |9,_=>rw[c9];rfl
   |10,_=>rw[c10];rfl
   |11,_=>rw[c11];rfl
  ·rw[List.getElem?_eq_none (by omega),List.getElem?_eq_none (by show 12≤i;omega)]
 ·show 1+(kids.map (ntCount m)).sum≤_
  rw[hx]
  simp only[List.map_cons,List.map_nil,uptoBulk,uptoBulkAll]
  omega
 ·show (20+s0.size+s2.size+s3.size+(l.map fun s=>20+s.1.size+s.2.size).sum)+(kids.map (ntBytes m)).sum≤_
  rw[hx]
  simp only[List.map_cons,List.map_nil,uptoBulk,uptoBulkAll]
  omega
end
end Go.Proofs.YtbeccmkegckjjaaGreatDoor
end
