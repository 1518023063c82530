/- Law 43, UdfbuildSizes: a part of the proof. -/
import Derived.Test.YtbeccmkegckjjaaGreatDoorQ18
import Derived.Deep.DeepCutAuto
section
namespace Go.Proofs.YtbeccmkegckjjaaGreatDoor
open Go.RowKit
set_option maxRecDepth 1000000
set_option maxHeartbeats 3200000
def NmLt(a b:ByteArray):Prop:=ltB a.data.toList b.data.toList=true
theorem sorted_pairwise{l:List ByteArray}(h:sortedTo l l.length=true):l.Pairwise NmLt:=by
 rw[List.pairwise_iff_getElem]
 intro i j hi hj hij
 have h1:=sortedTo_lt l h (j-i-1) i (by omega)
 have e:i+(j-i-1)+1=j:=by omega
 have: ∀k (hk:k<l.length),k=j→l[k]=l[j]:=fun k hk e=>by subst e;rfl
 unfold NmLt
 rw[←this _ (by omega) e];exact h1
theorem pairwise_sorted{l:List ByteArray}(h:l.Pairwise NmLt):sortedTo l l.length=true:=by
 rw[List.pairwise_iff_getElem] at h
 unfold sortedTo
 refine List.all_eq_true.2 fun x hx=>?_
 rw[List.mem_range] at hx
 have:=h x (x+1) (by omega) (by omega) (by omega)
 rw[List.getD_eq_getElem?_getD,List.getD_eq_getElem?_getD,List.getElem?_eq_getElem (show x<l.length by omega),List.getElem?_eq_getElem (show x+1<l.length by omega)]
 exact this
theorem viewF_name(n:Nat)(t:NT n):(ntF n (ntView n t)).name=(ntF n t).name:=by
 cases n with
 |zero=>rfl
 |succ n=>rfl
def shownKids(n:Nat)(kids:List (NT n)):List (NT n):=(kids.filter fun k=>shownF (ntF n k)).map (ntView n)
theorem ntView_def(n:Nat)(f:NF)(kids:List (NT n)):ntView (n+1) (f,kids)=(viewF f,shownKids n kids):=rfl
theorem shownKids_names(n:Nat)(kids:List (NT n)):kidNames n (shownKids n kids)=(kids.filter fun k=>shownF (ntF n k)).map fun k=>(ntF n k).name:=by
 unfold kidNames shownKids
 rw[List.map_map]
 exact List.map_congr_left fun k _=>viewF_name n k
theorem shownKids_sorted(n:Nat)(kids:List (NT n))(h:sortedTo (kidNames n kids) kids.length=true):sortedTo (kidNames n (shownKids n kids)) (shownKids n kids).length=true:=by
 rw[←kidNames_len n kids] at h
 rw[←kidNames_len n (shownKids n kids)]
 refine pairwise_sorted ?_
 rw[shownKids_names]
 exact (sorted_pairwise h).sublist (List.filter_sublist.map _)
theorem oneOK_parts{f:NF}{names:List ByteArray}{l:Nat}(h:oneOK f names l=true):okName f l=true∧okNums f=true∧okStreams f=true∧sortedTo names names.length=true∧okKind f l=true∧okParts f names.length=true∧okTgt f=true∧okSizes f l=true:=by
 unfold oneOK at h
 simp only[Bool.and_eq_true] at h
 exact ⟨h.2.1,h.2.2.2.2.1,h.2.2.2.2.2.2.1,h.2.2.2.2.2.2.2,h.1,h.2.2.1,h.2.2.2.1,h.2.2.2.2.2.1⟩
theorem ntOK_parts{n:Nat}{f:NF}{kids:List (NT n)}{l:Nat}(h:ntOK (n+1) (f,kids) l=true):oneOK f (kidNames n kids) l=true∧ ∀k∈kids,ntOK n k (l+1)=true:=by
 have h':(oneOK f (kidNames n kids) l&&kids.all fun k=>ntOK n k (l+1))=true:=h
 rw[Bool.and_eq_true] at h'
 exact ⟨h'.1,List.all_eq_true.1 h'.2⟩
theorem ntOK_name{n:Nat}{t:NT n}{l:Nat}(h:ntOK n t (l+1)=true)(hl:1≤l):nameOK (ntF n t).name.data.toList=true:=by
 cases n with
 |zero=>exact nomatch t
 |succ n=>
  have h1:=(oneOK_parts (ntOK_parts h).1).1
  unfold okName at h1
  rw[if_neg (by omega)] at h1
  exact h1
theorem ntOK_hidden{n:Nat}{t:NT n}{l:Nat}(h:ntOK n t l=true):0≤(ntF n t).hidden∧(ntF n t).hidden≤15:=by
 cases n with
 |zero=>exact nomatch t
 |succ n=>
  have h1:=(oneOK_parts (ntOK_parts h).1).2.1
  unfold okNums at h1
  simp only[Bool.and_eq_true,decide_eq_true_eq] at h1
  exact h1.2.2.2.2.2
theorem ntSorted_view: ∀(n:Nat) (t:NT n) (l:Nat),ntOK n t l=true→ntSorted n (ntView n t)=true
 |0,t,_,_=>rfl
 |n+1,(f,kids),l,h=>by
  obtain ⟨h1,h2⟩:=ntOK_parts h
  obtain ⟨-, -,h3,h4, -⟩:=oneOK_parts h1
  rw[kidNames_len] at h4
  have h5:=shownKids_sorted n kids h4
  unfold okStreams at h3
  rw[Bool.and_eq_true] at h3
  show (sortedTo (kidNames n (shownKids n kids)) (shownKids n kids).length&&(sortedTo ((viewF f).streams.map (·.1)) (viewF f).streams.length&&(shownKids n kids).all (ntSorted n)))=true
  rw[h5,Bool.true_and,Bool.and_eq_true]
  refine ⟨h3.2,List.all_eq_true.2 fun x hx=>?_⟩
  obtain ⟨k,hk,rfl⟩:=List.mem_map.1 hx
  exact ntSorted_view n k (l+1) (h2 k (List.mem_filter.1 hk).1)
theorem sum_filter_map{α:Type}(p:α→Bool)(g:α→α)(m:α→Nat): ∀(l:List α),(∀x∈l,m (g x)≤m x)→(((l.filter p).map g).map m).sum≤(l.map m).sum
 |[],_=>Nat.le_refl _
 |x::l,h=>by
  have ih:=sum_filter_map p g m l fun y hy=>h y (by simp[hy])
  have hx:=h x (by simp)
  rw[List.filter_cons]
  split
  ·simp only[List.map_cons,List.sum_cons];omega
  ·simp only[List.map_cons,List.sum_cons];omega
theorem ntCount_view: ∀(n:Nat) (t:NT n),ntCount n (ntView n t)≤ntCount n t
 |0,t=>Nat.le_refl _
 |n+1,(f,kids)=>by
  have h:=sum_filter_map (fun k=>shownF (ntF n k)) (ntView n) (ntCount n) kids fun x _=>ntCount_view n x
  show 1+((shownKids n kids).map (ntCount n)).sum≤1+(kids.map (ntCount n)).sum
  unfold shownKids
  omega
theorem ntBytes_view: ∀(n:Nat) (t:NT n),ntBytes n (ntView n t)≤ntBytes n t
 |0,t=>Nat.le_refl _
 |n+1,(f,kids)=>by
  have h:=sum_filter_map (fun k=>shownF (ntF n k)) (ntView n) (ntBytes n) kids fun x _=>ntBytes_view n x
  show nfBytes (viewF f)+((shownKids n kids).map (ntBytes n)).sum≤nfBytes f+(kids.map (ntBytes n)).sum
  have e:nfBytes (viewF f)=nfBytes f:=rfl
  unfold shownKids
  omega
theorem shownKids_snoc(n:Nat)(kids:List (NT n))(k:Nat)(hk:k<kids.length):shownKids n (kids.take (k+1))=shownKids n (kids.take k)++(if shownF (ntF n kids[k])=true then [ntView n kids[k]] else []):=by
 unfold shownKids
 rw[List.take_succ_eq_append_getElem hk,List.filter_append,List.map_append]
 congr 1
 by_cases h:shownF (ntF n kids[k])=true
 ·rw[if_pos h,List.filter_cons,if_pos h];rfl
 ·rw[if_neg h,List.filter_cons,if_neg h];rfl
end Go.Proofs.YtbeccmkegckjjaaGreatDoor
end
section
namespace Go.Proofs.YtbeccmkegckjjaaGreatDoor
open Go.RowKit
set_option maxRecDepth 1000000
set_option maxHeartbeats 3200000
structure FE where
 f:NF
 kids:List NF
 ks:List Nat
def flStep(n:Nat)(F:NT n→Nat→List FE)(b:Nat)(s:List Nat × List FE)(t:NT n):List Nat × List FE:=(s.1++[b+s.2.length],s.2++F t (b+s.2.length))
def fl:(n:Nat)→NT n→Nat→List FE
 |0,_,_=>[]
 |n+1,t,b=>⟨t.1,t.2.map (ntF n),(t.2.foldl (flStep n (fl n) (b+1)) ([],[])).1⟩::(t.2.foldl (flStep n (fl n) (b+1)) ([],[])).2
def flSt(n:Nat)(kids:List (NT n))(b k:Nat):List Nat × List FE:=(kids.take k).foldl (flStep n (fl n) (b+1)) ([],[])
theorem flSt_zero(n:Nat)(kids:List (NT n))(b:Nat):flSt n kids b 0=([],[]):=by unfold flSt;rw[List.take_zero];rfl
theorem flSt_succ(n:Nat)(kids:List (NT n))(b k:Nat)(h:k<kids.length):flSt n kids b (k+1)=((flSt n kids b k).1++[b+1+(flSt n kids b k).2.length],(flSt n kids b k).2++fl n kids[k] (b+1+(flSt n kids b k).2.length)):=by
 unfold flSt
 rw[foldl_take' _ _ _ _ h];rfl
theorem fl_def(n:Nat)(f:NF)(kids:List (NT n))(b:Nat):fl (n+1) (f,kids) b=⟨f,kids.map (ntF n),(flSt n kids b kids.length).1⟩::(flSt n kids b kids.length).2:=by
 unfold flSt
 rw[List.take_length];rfl
theorem flSt_len(n:Nat)(kids:List (NT n))(b:Nat): ∀k,k≤kids.length→(flSt n kids b k).1.length=k
 |0,_=>by rw[flSt_zero];rfl
 |k+1,h=>by rw[flSt_succ n kids b k h,List.length_append,flSt_len n kids b k (by omega)];rfl
theorem fl_len: ∀(n:Nat) (t:NT n) (b:Nat),(fl n t b).length=ntCount n t
 |0,_,_=>rfl
 |n+1,(f,kids),b=>by
  rw[fl_def,List.length_cons]
  have h: ∀k,k≤kids.length→(flSt n kids b k).2.length=((kids.take k).map (ntCount n)).sum:=fun k=>by
   induction k with
   |zero=>intro _;rw[flSt_zero];rfl
   |succ k ih=>intro hk;rw[flSt_succ n kids b k hk,List.length_append,ih (by omega),fl_len n _ _,sum_take _ _ _ hk]
  rw[h _ (Nat.le_refl _),List.take_length]
  show _=1+(kids.map (ntCount n)).sum
  omega
theorem fl_head: ∀(n:Nat) (t:NT n) (b:Nat),0<(fl n t b).length→ ∃e,(fl n t b)[0]? =some e∧e.f=ntF n t
 |0,_,_,h=>by simp[fl] at h
 |n+1,(f,kids),b,_=>by rw[fl_def];exact ⟨_,rfl,rfl⟩
def FlOK(b:Nat)(L:List FE)(e:FE):Prop:=e.ks.length=e.kids.length∧ ∀k,(h:k<e.ks.length)→(h':k<e.kids.length)→b≤e.ks[k]∧ ∃e',L[e.ks[k]-b]? =some e'∧e'.f=e.kids[k]
theorem FlOK.left{b:Nat}{L M:List FE}{e:FE}(h:FlOK b L e):FlOK b (L++M) e:=⟨h.1,fun k hk hk'=>by
 obtain ⟨h1,e',h2,h3⟩:=h.2 k hk hk'
 refine ⟨h1,e',?_,h3⟩
 rw[List.getElem?_append_left (List.getElem?_eq_some_iff.1 h2).1];exact h2⟩
theorem FlOK.right{b:Nat}{L M:List FE}{e:FE}(h:FlOK (b+M.length) L e):FlOK b (M++L) e:=⟨h.1,fun k hk hk'=>by
 obtain ⟨h1,e',h2,h3⟩:=h.2 k hk hk'
 refine ⟨by omega,e',?_,h3⟩
 rw[List.getElem?_append_right (by omega),show e.ks[k]-b-M.length=e.ks[k]-(b+M.length) by omega];exact h2⟩
theorem fl_ok: ∀(n:Nat) (t:NT n) (b:Nat), ∀e∈fl n t b,FlOK b (fl n t b) e
 |0,_,_=>fun e h=>by simp[fl] at h
 |n+1,(f,kids),b=>by
  have h: ∀k,k≤kids.length→(∀e∈(flSt n kids b k).2,FlOK (b+1) (flSt n kids b k).2 e)∧ ∀j,(h:j<k)→ ∃h':j<(flSt n kids b k).1.length, ∃h'':j<kids.length,b+1≤(flSt n kids b k).1[j]∧ ∃e',(flSt n kids b k).2[(flSt n kids b k).1[j]-(b+1)]? =some e'∧e'.f=ntF n kids[j]:=fun k=>by
   induction k with
   |zero=>intro _;rw[flSt_zero];exact ⟨fun e h=>by simp at h,fun j h=>by omega⟩
   |succ k ih=>
    intro hk
    obtain ⟨i1,i2⟩:=ih (by omega)
    have hl:=flSt_len n kids b k (by omega)
    rw[flSt_succ n kids b k hk]
    generalize flSt n kids b k=s at*
    refine ⟨fun e he=>?_,fun j hj=>?_⟩
    ·rcases List.mem_append.1 he with he|he
     ·exact (i1 e he).left
     ·exact (fl_ok n _ _ e he).right
    ·by_cases hjk:j<k
     ·obtain ⟨h1,h2,h3,e',h4,h5⟩:=i2 j hjk
      refine ⟨by rw[List.length_append];omega,h2,?_⟩
      simp only
      rw[List.getElem_append_left h1]
      refine ⟨h3,e',?_,h5⟩
      rw[List.getElem?_append_left (List.getElem?_eq_some_iff.1 h4).1];exact h4
     ·have e:j=k:=by omega
      subst e
      refine ⟨by rw[List.length_append,hl];simp,hk,?_⟩
      simp only
      rw[List.getElem_append_right (by omega)]
      simp only[hl,Nat.sub_self,List.getElem_singleton]
      refine ⟨by omega,?_⟩
      have hp:0<(fl n kids[j] (b+1+s.2.length)).length:=by rw[fl_len];exact ntCount_pos n _
      obtain ⟨e',h4,h5⟩:=fl_head n kids[j] (b+1+s.2.length) hp
      refine ⟨e',?_,h5⟩
      rw[List.getElem?_append_right (by omega),show b+1+s.2.length-(b+1)-s.2.length=0 by omega];exact h4
  obtain ⟨h1,h2⟩:=h kids.length (Nat.le_refl _)
  rw[fl_def]
  intro e he
  have hcons: ∀(x:FE) (L:List FE) (e:FE),FlOK (b+1) L e→FlOK b (x::L) e:=fun x L e h=>FlOK.right (M:=[x]) h
  rcases List.mem_cons.1 he with rfl|he
  ·refine ⟨by simp[flSt_len],fun k hk hk'=>?_⟩
   simp only at hk
   obtain ⟨_,q2,q3,e',q4,q5⟩:=h2 k (by rw[flSt_len n kids b _ (Nat.le_refl _)] at hk;exact hk)
   refine ⟨by simp only;omega,e',?_,by simpa using q5⟩
   simp only
   rw[show (flSt n kids b kids.length).1[k]-b=((flSt n kids b kids.length).1[k]-(b+1))+1 by omega,List.getElem?_cons_succ]
   exact q4
  ·exact hcons _ _ e (h1 e he)
section
variable {P:Program}
theorem run_append_blk(w:World)(base:Nat)(t ty e:TypeId)(i:TypeInfo)(z:Value)(size bytes:Nat)(ht:P.underlying t=some (.slice e))(hi:P.info? e=some i)(hz:i.zero=some z)
 (hsize:i.size=size) (hby:i.bytes=bytes) (hzs:z.cells.size=size) (hsz:0<size)
 (v:Value) (n:Nat) (xs:List Value) (hown:w.ownsRow base e size v n xs)
 (a:Addr) (m c:Nat) (news:List Value) (hl:news.length=m*size) (hnews: ∀j u,news[j]? =some u→w.cell? (a.add j)=some u) (h1: ∀u∈news,u.oneCell'=true)
 (h63:n+m≤maxLen) (hbytes:(n+m)*bytes≤140737488355328) (hbase:base≤w.heap.size):
 ∃v' w',(Builtin.append_ #[t,t] ty #[v, .slice (some a) m c]).run P w= .ok v' w'∧w'.ownsRow base e size v' (n+m) (xs++news)∧w.grownBy w' v.ownBlock∧ ∀g,v'.ownBlock=some g→v.ownBlock=some g∨w.heap.size≤g:=by
 obtain ⟨v',w',r1,o1,g1,_⟩:=run_append_own (P:=P) w base t ty e i z size bytes ht hi hz hsize hby hzs hsz v n xs hown a m c news hl hnews h1 h63 hbytes hbase
 refine ⟨v',w',r1,o1,g1,fun g hg=>?_⟩
 rcases hown.2 with ⟨rfl,rfl⟩|⟨g0,cap,cur,rfl,hbg,hg0,hnc,hcm,hcs,htake⟩
 ·have hx:xs=[]:=List.eq_nil_of_length_eq_zero (by simpa using hown.1)
  subst hx
  obtain ⟨v2,w2,r2,o2, -, -⟩:=run_append_own (P:=P) w w.heap.size t ty e i z size bytes ht hi hz hsize hby hzs hsz _ 0 [] (World.ownsRow_nil _ _ _ _) a m c news hl hnews h1 h63 hbytes (Nat.le_refl _)
  have e1:=r1.symm.trans r2
  injection e1 with e1 e2
  subst e1
  exact .inr (o2.lt g hg).1
 ·subst hsize
  subst hby
  by_cases hroom:n+m≤cap
  ·have hfit:n*i.size+news.length≤cur.size:=by rw[hl,hcs, ←Nat.add_mul];exact Nat.mul_le_mul_right _ hroom
   have hr:=run_append_room (P:=P) w t ty e i ht hi g0 n cap cur hg0 a m c news hl hnews h1 hroom hfit
   have e1:=r1.symm.trans hr
   injection e1 with e1 e2
   subst e1
   exact .inl hg
  ·have holds: ∀j u,xs[j]? =some u→w.cell? ((⟨g0,0,none⟩:Addr).add j)=some u:=hown.cells (g:=g0) rfl
   have hsmall:n+m≤9223372036854775807:=by simp only[maxLen] at h63;omega
   have hr:=run_append_grow (P:=P) w t ty e i z ht hi hz ⟨g0,0,none⟩ n cap xs hown.1 holds a m c news hl hnews (by omega) (by omega) (growslice_fits (by omega) hbytes)
   have e1:=r1.symm.trans hr
   injection e1 with e1 e2
   subst e1
   injection hg with hg
   exact .inr (Nat.le_of_eq hg)
theorem wpList_append_blk{w:World}{ops:Array Oper}{rest:List Oper}{o:Oper}{a:Act}{Q:Exit→Act→World→Prop}(hgd:o.guard=none)(s x:Operand)(t:TypeId)
 (ho:o.op= .call {callee:= .builtin .append,args:= #[s,x],argTypes:= #[t,t]})
 (base:Nat) (e:TypeId) (i:TypeInfo) (z:Value) (size bytes:Nat) (ht:P.underlying t=some (.slice e)) (hi:P.info? e=some i) (hz:i.zero=some z)
 (hsize:i.size=size) (hby:i.bytes=bytes) (hzs:z.cells.size=size) (hsz:0<size)
 (v:Value) (n:Nat) (xs:List Value) (hs:a.eval s=v) (hown:w.ownsRow base e size v n xs)
 (ad:Addr) (m c:Nat) (news:List Value) (hx:a.eval x= .slice (some ad) m c) (hl:news.length=m*size) (hnews: ∀j u,news[j]? =some u→w.cell? (ad.add j)=some u) (h1: ∀u∈news,u.oneCell'=true)
 (h63:n+m≤maxLen) (hbytes:(n+m)*bytes≤140737488355328) (hbase:base≤w.heap.size)
 (h: ∀v' w',w'.ownsRow base e size v' (n+m) (xs++news)→w.grownBy w' v.ownBlock→(∀g,v'.ownBlock=some g→v.ownBlock=some g∨w.heap.size≤g)→wpList P ops Q rest (a.put o.dst v') w'):wpList P ops Q (o::rest) a w:=by
 refine wpList_plain hgd fun K hK=>?_
 obtain ⟨v',w',hr,h2,h3,h4⟩:=run_append_blk (P:=P) w base t o.type e i z size bytes ht hi hz hsize hby hzs hsz v n xs hown ad m c news hl hnews h1 h63 hbytes hbase
 unfold Oper.wp execOp
 simp only[ho,resolve,invoke,builtin,Sem.run_bind,Sem.run_pure,Result.andThen_ok,List.map_toArray,List.map_cons,List.map_nil,hs,hx,hr]
 exact hK _ _ (h v' w' h2 h3 h4)
end
theorem own_set{w:World}{base:Nat}{e:TypeId}{size:Nat}{v:Value}{n g:Nat}{xs:List Value}(h:w.ownsRow base e size v n xs)(hg:v.ownBlock=some g)(i:Nat)(hi:i<n*size)(u:Value):
 (w.setCell ⟨g,i,none⟩ u).ownsRow base e size v n (xs.set i u):=by
 obtain ⟨h1,h2⟩:=h
 refine ⟨by rw[List.length_set];exact h1,?_⟩
 rcases h2 with ⟨rfl,rfl⟩|⟨g0,cap,cur,rfl,hb,hgg,hnc,hcm,hcs,ht⟩
 ·omega
 ·injection hg with hg
  subst hg
  refine .inr ⟨g0,cap,_,rfl,hb,heap_setCell_same w g0 i cur e u hgg,hnc,hcm,by simpa using hcs,?_⟩
  rw[Array.toList_setIfInBounds,List.take_set,ht]
def Apart(x y:Value):Prop:= ∀g,x.ownBlock=some g→y.ownBlock≠some g
theorem Apart.symm{x y:Value}(h:Apart x y):Apart y x:=fun g h1 h2=>h g h2 h1
def FlatE(tail:List Value→Value→Prop)(w:World)(B:Nat)(e:FE)(c:List Value)(kv:Value):Prop:=
 ∃(nkv nsv:Value) (kcs:List (List Value)) (tl:List Value),c=nfCells e.f nkv nsv++tl∧tl.length=4∧tail tl kv∧RowV w (· < B) nsv 2 (strCells e.f.streams)∧RowV w (· < B) nkv 12 kcs∧kcs.length=e.kids.length∧
  ∀k,(h:k<e.kids.length)→(h':k<kcs.length)→ ∃(a a2:Option Addr) (l c l2 c2:Nat),kcs[k]=nfCells e.kids[k] (.slice a l c) (.slice a2 l2 c2)
structure FlatR (T:TypeId) (tail:List Value→Value→Prop) (B base:Nat) (C:Nat→Prop) (w:World) (v:Value) (es:List FE) (cs:List (List Value)) (kvs:List Value):Prop where
 lc:cs.length=es.length
 lk:kvs.length=es.length
 own:w.ownsRow base T 16 v es.length cs.flatten
 ent: ∀j,(h:j<es.length)→(h1:j<cs.length)→(h2:j<kvs.length)→FlatE tail w B es[j] cs[j] kvs[j]
 ints: ∀j,(h:j<es.length)→(h2:j<kvs.length)→w.ownsRow base 3 1 kvs[j] es[j].ks.length (intsV es[j].ks)
 aprt:(v::kvs).Pairwise Apart
 blk: ∀x∈v::kvs, ∀g,x.ownBlock=some g→C g
theorem FlatE.len{tail:List Value→Value→Prop}{w:World}{B:Nat}{e:FE}{c:List Value}{kv:Value}(h:FlatE tail w B e c kv):c.length=16:=by
 obtain ⟨_,_,_,tl,rfl,h1,_⟩:=h
 rw[List.length_append,h1];rfl
theorem FlatE.below{tail:List Value→Value→Prop}{w w':World}{B:Nat}{e:FE}{c:List Value}{kv:Value}(h:FlatE tail w B e c kv)(hb:Below B w w'):FlatE tail w' B e c kv:=by
 obtain ⟨a1,a2,a3,a4,h1,h2,h3,h4,h5,h6⟩:=h
 exact ⟨a1,a2,a3,a4,h1,h2,h3,h4.below hb,h5.below hb,h6⟩
theorem FlatR.rows{T:TypeId}{tail:List Value→Value→Prop}{B base:Nat}{C:Nat→Prop}{w:World}{v:Value}{es:List FE}{cs:List (List Value)}{kvs:List Value}(h:FlatR T tail B base C w v es cs kvs): ∀c∈cs,c.length=16:=fun c hc=>by
 obtain ⟨j,hj,rfl⟩:=List.mem_iff_getElem.1 hc
 have:=h.lc
 have:=h.lk
 exact (h.ent j (by omega) hj (by omega)).len
theorem FlatR.kp{T:TypeId}{tail:List Value→Value→Prop}{B base:Nat}{C D:Nat→Prop}{w w':World}{v:Value}{es:List FE}{cs:List (List Value)}{kvs:List Value}(h:FlatR T tail B base C w v es cs kvs)(hk:Kp D w w')(hD: ∀b,D b→ ¬C b∧B≤b)(hB:B≤w.heap.size):FlatR T tail B base C w' v es cs kvs:=by
 have hkeep: ∀ {e size x n xs},x∈v::kvs→w.ownsRow base e size x n xs→w'.ownsRow base e size x n xs:=fun {e size x n xs} hx ho=>by
  refine ⟨ho.1,?_⟩
  rcases ho.2 with hn|⟨g,cap,cur,rfl,hb,hg,rest⟩
  ·exact .inl hn
  ·have hlt:=(Array.getElem?_eq_some_iff.1 hg).1
   exact .inr ⟨g,cap,cur,rfl,hb,by rw[hk.block g hlt fun hd=>(hD g hd).1 (h.blk _ hx g rfl)];exact hg,rest⟩
 have hbB:Below B w w':=hk.below (fun b hb=>(hD b hb).2) hB
 exact ⟨h.lc,h.lk,hkeep (by simp) h.own,fun j h0 h1 h2=>(h.ent j h0 h1 h2).below hbB,fun j h0 h2=>hkeep (List.mem_cons_of_mem _ (List.getElem_mem h2)) (h.ints j h0 h2),h.aprt,h.blk⟩
theorem FlatR.weaken{T:TypeId}{tail:List Value→Value→Prop}{B base:Nat}{C C':Nat→Prop}{w:World}{v:Value}{es:List FE}{cs:List (List Value)}{kvs:List Value}(h:FlatR T tail B base C w v es cs kvs)(hC: ∀b,C b→C' b):FlatR T tail B base C' w v es cs kvs:=
 ⟨h.lc,h.lk,h.own,h.ent,h.ints,h.aprt,fun x hx g hg=>hC g (h.blk x hx g hg)⟩
theorem FlatR.nil(T:TypeId)(tail:List Value→Value→Prop)(B base:Nat)(C:Nat→Prop)(w:World):FlatR T tail B base C w (.slice none 0 0) [] [] []:=
 ⟨rfl,rfl,World.ownsRow_nil _ _ _ _,fun j h=>by simp at h,fun j h=>by simp at h,by simp,fun x hx g hg=>by simp at hx;subst hx;cases hg⟩
end Go.Proofs.YtbeccmkegckjjaaGreatDoor
end
section
namespace Go.Proofs.YtbeccmkegckjjaaGreatDoor
open Go.RowKit
set_option maxRecDepth 1000000
set_option maxHeartbeats 3200000
theorem flat_set{α:Type}(m:Nat): ∀(cs:List (List α)),(∀c∈cs,c.length=m)→ ∀(i q:Nat) (u:α) (hi:i<cs.length),q<m→(cs.set i (cs[i].set q u)).flatten=cs.flatten.set (i*m+q) u
 |[],_,i,_,_,hi,_=>by simp at hi
 |c::cs,hm,0,q,u,_,hq=>by
  have hc:=hm c (by simp)
  rw[List.set_cons_zero,List.flatten_cons,List.flatten_cons,List.getElem_cons_zero,Nat.zero_mul,Nat.zero_add,List.set_append_left _ _ (by omega)]
 |c::cs,hm,i+1,q,u,hi,hq=>by
  have hc:=hm c (by simp)
  have ih:=flat_set m cs (fun c h=>hm c (by simp[h])) i q u (by simpa using hi) hq
  rw[List.set_cons_succ,List.flatten_cons,List.flatten_cons,List.getElem_cons_succ,ih,List.set_append_right _ _ (by rw[Nat.add_mul];omega)]
  congr 2
  rw[Nat.add_mul];omega
theorem flat_snoc{α:Type}(cs:List (List α))(c:List α):(cs++[c]).flatten=cs.flatten++c:=by simp
theorem grown_keeps{w w':World}{base:Nat}{e:TypeId}{size:Nat}{v:Value}{n:Nat}{xs:List Value}{r:Option Nat}(h:w.ownsRow base e size v n xs)(hg:w.grownBy w' r)(hne: ∀g,v.ownBlock=some g→r≠some g):w'.ownsRow base e size v n xs:=
 h.kept hg (by
  rcases hv:v.ownBlock with _|g
  ·exact .inl rfl
  ·exact .inr fun e=>hne g hv e.symm)
theorem Kp.wk{C C':Nat→Prop}{w w':World}(h: ∀b,C b→C' b)(k:Kp C w w'):Kp C' w w':=⟨k.os,k.tape,k.output,k.size,fun b hb hn=>k.block b hb fun hc=>hn (h b hc)⟩
theorem Kp.of_grown{C:Nat→Prop}{w w':World}{r:Option Nat}(h:w.grownBy w' r)(hr: ∀g,r=some g→C g):Kp C w w':=⟨h.os,h.tape,h.output,h.size,fun b hb hn=>h.block b hb fun e=>hn (hr b e.symm)⟩
theorem FlatR.snoc{T:TypeId}{tail:List Value→Value→Prop}{B base:Nat}{C C':Nat→Prop}{w w1 w2:World}{v v':Value}{es:List FE}{cs:List (List Value)}{kvs:List Value}(h:FlatR T tail B base C w v es cs kvs)(h01:Below w.heap.size w w1)
 {f:NF} {kids:List NF} {c:List Value} (ho:w2.ownsRow base T 16 v' (es.length+1) (cs.flatten++c)) (hg:w1.grownBy w2 v.ownBlock) (hblk: ∀b,v'.ownBlock=some b→v.ownBlock=some b∨w1.heap.size≤b)
 (hE:FlatE tail w B ⟨f,kids,[]⟩ c (.slice none 0 0)) (hB:B≤w.heap.size) (hBC: ∀b,C b→B≤b) (hC: ∀b,C b→C' b) (hC': ∀b,w.heap.size≤b→b<w2.heap.size→C' b):
 FlatR T tail B base C' w2 v' (es++[⟨f,kids,[]⟩]) (cs++[c]) (kvs++[.slice none 0 0])∧Kp C' w w2:=by
 have hlc:=h.lc
 have hlk:=h.lk
 have k1:Kp C' w w1:=Kp.of h01
 have k2:Kp C' w1 w2:=Kp.of_grown hg fun g hg=>hC g (h.blk v (by simp) g hg)
 have k12:=k1.trans k2
 have hvB: ∀g,v.ownBlock=some g→B≤g:=fun g hg=>hBC g (h.blk v (by simp) g hg)
 have hb:Below B w w2:=Below.grown (h01.mono hB) hg (Nat.le_trans hB h01.size) (fun j hj=>hvB j hj)
 have hap:=h.aprt
 rw[List.pairwise_cons] at hap
 refine ⟨⟨by simp[hlc],by simp[hlk],by rw[List.length_append,flat_snoc];exact ho,fun j h0 h1 h2=>?_,fun j h0 h2=>?_,?_,?_⟩,k12⟩
 ·rw[List.length_append] at h0
  by_cases hj:j<es.length
  ·rw[List.getElem_append_left hj,List.getElem_append_left (by omega),List.getElem_append_left (by omega)]
   exact (h.ent j hj (by omega) (by omega)).below hb
  ·have e:j=es.length:=by simp at h0;omega
   subst e
   rw[List.getElem_append_right (Nat.le_refl _),List.getElem_append_right (by omega),List.getElem_append_right (by omega)]
   simp only[Nat.sub_self,hlc,hlk,List.getElem_singleton]
   exact hE.below hb
 ·rw[List.length_append] at h0
  by_cases hj:j<es.length
  ·have hj2:j<kvs.length:=by omega
   rw[List.getElem_append_left hj,List.getElem_append_left hj2]
   exact grown_keeps (own_below' (h.ints j hj hj2) h01) hg fun g e1 e2=>hap.1 _ (List.getElem_mem hj2) g e2 e1
  ·have e:j=es.length:=by simp at h0;omega
   subst e
   rw[List.getElem_append_right (Nat.le_refl _),List.getElem_append_right (by omega)]
   simp only[Nat.sub_self,hlk,List.getElem_singleton]
   exact World.ownsRow_nil _ _ _ _
 ·rw[←List.cons_append,List.pairwise_append]
  refine ⟨?_,by simp,fun x _ y hy g _ e=>by simp at hy;subst hy;cases e⟩
  rw[List.pairwise_cons]
  refine ⟨fun y hy g e1 e2=>?_,hap.2⟩
  rcases hblk g e1 with e3|e3
  ·exact hap.1 y hy g e3 e2
  ·obtain ⟨j,hj,rfl⟩:=List.mem_iff_getElem.1 hy
   have:=((h.ints j (by omega) hj).lt g e2).2
   have:=h01.size
   omega
 ·intro x hx g e1
  rcases List.mem_cons.1 hx with rfl|hx
  ·rcases hblk g e1 with e3|e3
   ·exact hC g (h.blk v (by simp) g e3)
   ·exact hC' g (Nat.le_trans h01.size e3) (ho.lt g e1).2
  ·rcases List.mem_append.1 hx with hx|hx
   ·exact hC g (h.blk x (by simp[hx]) g e1)
   ·simp at hx;subst hx;cases e1
theorem FlatR.grow{T:TypeId}{tail:List Value→Value→Prop}{B base:Nat}{C C':Nat→Prop}{w w1 w2:World}{v kv':Value}{g x:Nat}{es:List FE}{cs:List (List Value)}{kvs:List Value}(h:FlatR T tail B base C w v es cs kvs)(h01:Below w.heap.size w w1)
 (i:Nat) (hi:i<es.length) (hi1:i<cs.length) (hi2:i<kvs.length) (p:Nat) (hp:p<4) (htail: ∀tl kv kv',tl.length=4→tail tl kv→tail (tl.set p kv') kv')
 (ho:w2.ownsRow base 3 1 kv' (es[i].ks.length+1) (intsV es[i].ks++[.int .i64 (x:Int)])) (hg:w1.grownBy w2 kvs[i].ownBlock) (hblk: ∀b,kv'.ownBlock=some b→kvs[i].ownBlock=some b∨w1.heap.size≤b)
 (hv:v.ownBlock=some g) (hB:B≤w.heap.size) (hBC: ∀b,C b→B≤b) (hC: ∀b,C b→C' b) (hC': ∀b,w.heap.size≤b→b<w2.heap.size→C' b):
 FlatR T tail B base C' (w2.setCell ⟨g,i*16+(12+p),none⟩ kv') v (es.set i ⟨es[i].f,es[i].kids,es[i].ks++[x]⟩) (cs.set i (cs[i].set (12+p) kv')) (kvs.set i kv')∧Kp C' w (w2.setCell ⟨g,i*16+(12+p),none⟩ kv'):=by
 have hlc:=h.lc
 have hlk:=h.lk
 have hrows:=h.rows
 have hap:=h.aprt
 rw[List.pairwise_cons] at hap
 have hap2:=hap.2
 rw[List.pairwise_iff_getElem] at hap2
 have hvi:=hap.1 _ (List.getElem_mem hi2)
 have k1:Kp C' w w1:=Kp.of h01
 have k2:Kp C' w1 w2:=Kp.of_grown hg fun b e=>hC b (h.blk _ (List.mem_cons_of_mem _ (List.getElem_mem hi2)) b e)
 have k3:Kp C' w2 (w2.setCell ⟨g,i*16+(12+p),none⟩ kv'):=(Kp.setIn w2 g (i*16+(12+p)) kv').wk fun b hb=>by subst hb;exact hC b (h.blk v (by simp) b hv)
 have hgB:B≤g:=hBC g (h.blk v (by simp) g hv)
 have hb2:Below B w w2:=Below.grown (h01.mono hB) hg (Nat.le_trans hB h01.size) (fun j hj=>hBC j (h.blk _ (List.mem_cons_of_mem _ (List.getElem_mem hi2)) j hj))
 have hb3:Below B w (w2.setCell ⟨g,i*16+(12+p),none⟩ kv'):=hb2.trans ((Kp.setIn w2 g (i*16+(12+p)) kv').below (fun b hb=>by omega) (Nat.le_trans hB hb2.size))
 have hov:w2.ownsRow base T 16 v es.length cs.flatten:=grown_keeps (own_below' h.own h01) hg fun b e1 e2=>hvi b e1 e2
 have hset: ∀ {e:TypeId} {size:Nat} {y:Value} {n:Nat} {xs:List Value},y.ownBlock≠some g→w2.ownsRow base e size y n xs→(w2.setCell ⟨g,i*16+(12+p),none⟩ kv').ownsRow base e size y n xs:=fun {e size y n xs} hy ho=>
  grown_keeps ho (Kp.setIn w2 g (i*16+(12+p)) kv').grown fun b e1 e2=>hy (by rw[e1,e2])
 have hvlt:g<w.heap.size:=(h.own.lt g hv).2
 have hkv':kv'.ownBlock≠some g:=fun e=>by
  rcases hblk g e with e3|e3
  ·exact hvi g hv e3
  ·have:=h01.size;omega
 refine ⟨⟨by simp[hlc],by simp[hlk],?_,fun j h0 h1 h2=>?_,fun j h0 h2=>?_,?_,?_⟩,(k1.trans k2).trans k3⟩
 ·rw[flat_set 16 cs hrows i (12+p) kv' hi1 (by omega),List.length_set]
  exact own_set hov hv _ (by have:(i+1)*16≤es.length*16:=Nat.mul_le_mul_right _ hi;omega) kv'
 ·rw[List.length_set] at h0
  rw[List.getElem_set,List.getElem_set,List.getElem_set]
  by_cases hj:i=j
  ·subst hj
   rw[if_pos rfl,if_pos rfl,if_pos rfl]
   obtain ⟨a1,a2,a3,tl,q1,q2,q3,q4,q5,q6⟩:=(h.ent i h0 hi1 hi2).below hb3
   refine ⟨a1,a2,a3,tl.set p kv',?_,by rw[List.length_set];exact q2,htail tl _ kv' q2 q3,q4,q5,q6⟩
   rw[q1,List.set_append_right _ _ (by show 12≤12+p;omega)]
   congr 2
   show 12+p-12=p
   omega
  ·rw[if_neg hj,if_neg hj,if_neg hj]
   exact (h.ent j h0 (by omega) (by omega)).below hb3
 ·rw[List.length_set] at h0
  rw[List.getElem_set,List.getElem_set]
  by_cases hj:i=j
  ·subst hj
   rw[if_pos rfl,if_pos rfl]
   refine hset hkv' ?_
   show w2.ownsRow base 3 1 kv' (es[i].ks++[x]).length (intsV (es[i].ks++[x]))
   rw[List.length_append,show intsV (es[i].ks++[x])=intsV es[i].ks++[.int .i64 (x:Int)] by simp[intsV]]
   exact ho
  ·rw[if_neg hj,if_neg hj]
   have hj2:j<kvs.length:=by omega
   refine hset (fun e=>(hap.1 _ (List.getElem_mem hj2)) g hv e) (grown_keeps (own_below' (h.ints j h0 hj2) h01) hg fun b e1 e2=>?_)
   rcases Nat.lt_or_gt_of_ne hj with hlt|hgt
   ·exact hap2 i j hi2 hj2 hlt b e2 e1
   ·exact hap2 j i hj2 hi2 hgt b e1 e2
 ·rw[List.pairwise_cons]
  refine ⟨fun y hy b e1 e2=>?_,?_⟩
  ·obtain ⟨j,hj,rfl⟩:=List.mem_iff_getElem.1 hy
   rw[List.length_set] at hj
   rw[List.getElem_set] at e2
   by_cases hij:i=j
   ·rw[if_pos hij] at e2
    have e3:=hv.symm.trans e1
    injection e3 with e3
    subst e3
    exact hkv' e2
   ·rw[if_neg hij] at e2
    exact hap.1 _ (List.getElem_mem hj) b e1 e2
  ·rw[List.pairwise_iff_getElem]
   intro a b ha hb hab c e1 e2
   rw[List.length_set] at ha hb
   rw[List.getElem_set] at e1 e2
   have hnew: ∀j,(hj:j<kvs.length)→i≠j→kv'.ownBlock=some c→kvs[j].ownBlock=some c→False:=fun j hj hij e3 e4=>by
    rcases hblk c e3 with e5|e5
    ·rcases Nat.lt_or_gt_of_ne hij with hlt|hgt
     ·exact hap2 i j hi2 hj hlt c e5 e4
     ·exact hap2 j i hj hi2 hgt c e4 e5
    ·have:=((h.ints j (by omega) hj).lt c e4).2
     have:=h01.size
     omega
   by_cases hia:i=a
   ·rw[if_pos hia] at e1
    rw[if_neg (by omega)] at e2
    exact hnew b hb (by omega) e1 e2
   ·rw[if_neg hia] at e1
    by_cases hib:i=b
    ·rw[if_pos hib] at e2
     exact hnew a ha hia e2 e1
    ·rw[if_neg hib] at e2
     exact hap2 a b ha hb hab c e1 e2
 ·intro y hy b e1
  rcases List.mem_cons.1 hy with rfl|hy
  ·exact hC b (h.blk _ (by simp) b e1)
  ·rcases List.mem_or_eq_of_mem_set hy with hy|rfl
   ·exact hC b (h.blk y (by simp[hy]) b e1)
   ·rcases hblk b e1 with e3|e3
    ·exact hC b (h.blk _ (List.mem_cons_of_mem _ (List.getElem_mem hi2)) b e3)
    ·exact hC' b (Nat.le_trans h01.size e3) (ho.lt b e1).2
end Go.Proofs.YtbeccmkegckjjaaGreatDoor
end
section
namespace Go.Proofs.YtbeccmkegckjjaaGreatDoor
open Go.RowKit
set_option maxRecDepth 1000000
set_option maxHeartbeats 6400000
def tailR(tl:List Value)(kv:Value):Prop:= ∃(p:ByteArray) (a u:Int),tl=[.string p, .int .i64 a, .int .i64 u,kv]
theorem tailR_set(tl:List Value)(kv kv':Value)(_:tl.length=4)(h:tailR tl kv):tailR (tl.set 3 kv') kv':=by
 obtain ⟨p,a,u,rfl⟩:=h
 exact ⟨p,a,u,rfl⟩
def flatZ:Array Value:= #[.string ⟨#[]⟩, .int .i64 0, .string ⟨#[]⟩, .string ⟨#[]⟩, .int .i64 0, .int .i64 0, .int .i64 0, .int .i64 0, .int .i64 0, .int .i64 0, .slice none 0 0, .slice none 0 0, .string ⟨#[]⟩, .int .i64 0, .int .i64 0, .slice none 0 0]
theorem flat_size:(Tryz.prog.info? 127).map (·.size)=some 16:=by kernel_rfl
theorem info_flat:(Tryz.prog.info? 127).map (fun i=>(i.zero,i.size,i.bytes))=some (some (.agg flatZ),16,208):=by kernel_rfl
def flCells(f:NF)(kv sv:Value)(p:ByteArray)(a u:Int)(ks:Value):List Value:=
 [.string f.name, .int .i64 f.kind, .string f.data, .string f.target, .int .i64 f.mode, .int .i64 f.uid, .int .i64 f.gid, .int .i64 f.time, .int .i64 f.weight, .int .i64 f.hidden,kv,sv, .string p, .int .i64 a, .int .i64 u,ks]
theorem flCells_nf(f:NF)(kv sv:Value)(p:ByteArray)(a u:Int)(ks:Value):flCells f kv sv p a u ks=nfCells f kv sv++[.string p, .int .i64 a, .int .i64 u,ks]:=rfl
theorem fl_one(f:NF)(a a2 a3:Option Addr)(l c l2 c2 l3 c3:Nat)(p:ByteArray)(x u:Int):(flCells f (.slice a l c) (.slice a2 l2 c2) p x u (.slice a3 l3 c3)).toArray.all (·.oneCell')=true:=by
 unfold flCells;simp[Value.oneCell']
theorem fl_cell(f:NF)(a a2 a3:Option Addr)(l c l2 c2 l3 c3:Nat)(p:ByteArray)(x u:Int): ∀y∈flCells f (.slice a l c) (.slice a2 l2 c2) p x u (.slice a3 l3 c3),y.oneCell'=true:=fun y hy=>by
 have h:=fl_one f a a2 a3 l c l2 c2 l3 c3 p x u
 rw[List.all_toArray] at h
 exact List.all_eq_true.1 h y hy
theorem FlatR.at{T:TypeId}{tail:List Value→Value→Prop}{B base:Nat}{C:Nat→Prop}{w:World}{g m cap:Nat}{es:List FE}{cs:List (List Value)}{kvs:List Value}(h:FlatR T tail B base C w (.slice (some ⟨g,0,none⟩) m cap) es cs kvs)(j q:Nat)(hj:j<es.length)(hj1:j<cs.length)(hq:q<16):
 w.cell? ⟨g,j*16+q,none⟩=cs[j][q]? :=by
 have hlt:j*16+q<es.length*16:=by
  have:(j+1)*16≤es.length*16:=Nat.mul_le_mul_right _ hj
  omega
 have hm:m=es.length:=by
  rcases h.own.2 with ⟨e,_⟩|⟨_,_,_,e,_⟩
  ·cases e
  ·injection e
 subst hm
 rw[h.own.cellAt _ hlt,flat_at 16 cs h.rows j q hj1 hq]
theorem own_frozen{w:World}{base:Nat}{e:TypeId}{size:Nat}{n g cap m:Nat}{xs:List Value}(h:w.ownsRow base e size (.slice (some ⟨g,0,none⟩) m cap) n xs)(i:Nat):w.frozen? ⟨g,i,none⟩=false:=by
 rcases h.2 with ⟨e,_⟩|⟨_,_,cur,e,_,hg,_⟩
 ·cases e
 ·injection e with e1 e2 e3
  injection e1 with e1
  injection e1 with e1
  subst e1
  exact frozen_of_row w g i cur _ hg
theorem set_mid{α:Type}(l r:List α)(x y:α):(l++x::r).set l.length y=l++y::r:=by
 rw[List.set_append_right _ _ (Nat.le_refl _),Nat.sub_self];rfl
def Cr(C:Nat→Prop)(S:Nat)(w:World)(b:Nat):Prop:=C b∨(S≤b∧b<w.heap.size)
theorem Cr.mono{C:Nat→Prop}{S:Nat}{w w':World}(h:w.heap.size≤w'.heap.size){b:Nat}(hb:Cr C S w b):Cr C S w' b:=hb.elim .inl fun h2=> .inr ⟨h2.1,Nat.lt_of_lt_of_le h2.2 h⟩
theorem Cr.cr{C:Nat→Prop}{S:Nat}{w w':World}(h:w.heap.size≤w'.heap.size)(hS:S≤w.heap.size){b:Nat}(hb:Cr (Cr C S w) w.heap.size w' b):Cr C S w' b:=hb.elim (fun h1=>h1.mono h) fun h2=> .inr ⟨Nat.le_trans hS h2.1,h2.2⟩
theorem Kp.low{C:Nat→Prop}{S:Nat}{w wx wy wz:World}(h:Kp C w wx)(k:Kp (Cr C S wz) wx wy)(hS:w.heap.size≤S):Kp C w wy:=
 ⟨k.os.trans h.os,k.tape.trans h.tape,k.output.trans h.output,Nat.le_trans h.size k.size,fun b hb hn=>(k.block b (Nat.lt_of_lt_of_le hb h.size) fun hc=>hc.elim hn fun h2=>by omega).trans (h.block b hb hn)⟩
theorem FlatR.kvAt{T:TypeId}{B base:Nat}{C:Nat→Prop}{w:World}{g m cap:Nat}{es:List FE}{cs:List (List Value)}{kvs:List Value}(h:FlatR T tailR B base C w (.slice (some ⟨g,0,none⟩) m cap) es cs kvs)(j:Nat)(hj:j<es.length)(hj2:j<kvs.length):
 w.cell? ⟨g,j*16+15,none⟩=some kvs[j]:=by
 have hlc:=h.lc
 rw[h.at j 15 hj (by omega) (by omega)]
 obtain ⟨a1,a2,a3,tl,e1,e2,⟨p,x,u,rfl⟩, -⟩:=h.ent j hj (by omega) hj2
 rw[e1];rfl
theorem mid_get{α:Type}(l r:List α)(x:α)(h:l.length<(l++x::r).length):(l++x::r)[l.length]=x:=by
 rw[List.getElem_append_right (Nat.le_refl _)];simp
theorem FlatR.step{T:TypeId}{tail:List Value→Value→Prop}{B base S:Nat}{C:Nat→Prop}{wr w1 w6:World}{g M cap x:Nat}{f:NF}{kf:List NF}{s1:List Nat}{es s2:List FE}{cs:List (List Value)}{kvs:List Value}{kvi kv':Value}
 (h:FlatR T tail B base (Cr C S wr) wr (.slice (some ⟨g,0,none⟩) M cap) (es++(⟨f,kf,s1⟩:FE)::s2) cs kvs) (hik:es.length<kvs.length) (hkv:kvs[es.length]=kvi) (p:Nat) (hp:p<4) (htail: ∀tl kv kv',tl.length=4→tail tl kv→tail (tl.set p kv') kv')
 (hB:B≤wr.heap.size) (hBC: ∀b,Cr C S wr b→B≤b) (hS:S≤wr.heap.size) (h01:Below wr.heap.size wr w1)
 (ho:w6.ownsRow base 3 1 kv' (s1.length+1) (intsV s1++[.int .i64 (x:Int)])) (hg:w1.grownBy w6 kvi.ownBlock) (hbk: ∀b,kv'.ownBlock=some b→kvi.ownBlock=some b∨w1.heap.size≤b):
 w6.cell? ⟨g,es.length*16+(12+p),none⟩=wr.cell? ⟨g,es.length*16+(12+p),none⟩∧w6.frozen? ⟨g,es.length*16+(12+p),none⟩=false∧
  (∃(cs7:List (List Value)) (kvs7:List Value),FlatR T tail B base (Cr C S (w6.setCell ⟨g,es.length*16+(12+p),none⟩ kv')) (w6.setCell ⟨g,es.length*16+(12+p),none⟩ kv') (.slice (some ⟨g,0,none⟩) M cap) (es++(⟨f,kf,s1++[x]⟩:FE)::s2) cs7 kvs7)∧
  Kp (Cr C S (w6.setCell ⟨g,es.length*16+(12+p),none⟩ kv')) wr (w6.setCell ⟨g,es.length*16+(12+p),none⟩ kv'):=by
 have hie:es.length<(es++(⟨f,kf,s1⟩:FE)::s2).length:=by rw[List.length_append,List.length_cons];omega
 have hlc:=h.lc
 have hlk:=h.lk
 have hmg:=mid_get es s2 (⟨f,kf,s1⟩:FE) hie
 have hap:=h.aprt
 rw[List.pairwise_cons] at hap
 have hapi:=hap.1 _ (List.getElem_mem hik)
 rw[hkv] at hapi
 have hov:=grown_keeps (own_below' h.own h01) hg fun b e1 e2=>hapi b e1 e2
 have hgw:g<wr.heap.size:=(h.own.lt g rfl).2
 have hsz6:wr.heap.size≤w6.heap.size:=Nat.le_trans h01.size hg.size
 have hsz7:(w6.setCell ⟨g,es.length*16+(12+p),none⟩ kv').heap.size=w6.heap.size:=by simp[World.setCell]
 obtain ⟨r1,r2⟩:=FlatR.grow (C':=Cr C S (w6.setCell ⟨g,es.length*16+(12+p),none⟩ kv')) (x:=x) (g:=g) h h01 es.length hie (by omega) hik p hp htail (by rw[hmg];exact ho) (by rw[hkv];exact hg) (by rw[hkv];exact hbk) rfl hB hBC
  (fun b hb=>hb.mono (by rw[hsz7];exact hsz6)) (fun b h1 h2=> .inr ⟨Nat.le_trans hS h1,by rw[hsz7];exact h2⟩)
 rw[hmg] at r1
 rw[set_mid] at r1
 refine ⟨?_,own_frozen hov _,⟨_,_,r1⟩,r2⟩
 exact (World.cell?_of_block (hg.block g (Nat.lt_of_lt_of_le hgw h01.size) fun e=>hapi g rfl e.symm)).trans (h01.cell hgw)
end Go.Proofs.YtbeccmkegckjjaaGreatDoor
end
