/- Law 43, UdfbuildSizes: a part of the proof. -/
import Derived.Test.YtbeccmkegckjjaaGreatDoorQ28
import Derived.Test.YtbeccmkegckjjaaGreatDoorQ29
import Derived.Test.YtbeccmkegckjjaaGreatDoorQ27
section
namespace Go.Proofs.YtbeccmkegckjjaaGreatDoor
open Go.RowKit
set_option maxRecDepth 1000000
set_option maxHeartbeats 3200000
def strTo(l:List (ByteArray × ByteArray))(k:Nat):Nat:=((l.take k).map fun s=>1+outside s.2.size).sum
theorem strTo_succ(l:List (ByteArray × ByteArray))(k:Nat)(h:k<l.length):strTo l (k+1)=strTo l k+(1+outside l[k].2.size):=sum_take (fun s:ByteArray × ByteArray=>1+outside s.2.size) l k h
theorem strTo_zero(l:List (ByteArray × ByteArray)):strTo l 0=0:=by simp[strTo]
noncomputable def selfLen(f:NF)(kids:List NF):Nat:=if f.kind=1 then 0 else outside (contLen f kids)
noncomputable def cntOf(f:NF)(kids:List NF):Nat:=1+selfLen f kids+(if f.streams.length=0 then 0 else 1+strTo f.streams f.streams.length)
def itemsOf(f:NF):Nat:=1+(if f.streams.length=0 then 0 else 1+f.streams.length)
noncomputable def cntTo(es:List FE)(k:Nat):Nat:=((es.take k).map fun e=>cntOf e.f e.kids).sum
def itemsTo(es:List FE)(k:Nat):Nat:=((es.take k).map fun e=>itemsOf e.f).sum
theorem cntTo_succ(es:List FE)(k:Nat)(h:k<es.length):cntTo es (k+1)=cntTo es k+cntOf es[k].f es[k].kids:=sum_take (fun e:FE=>cntOf e.f e.kids) es k h
theorem itemsTo_succ(es:List FE)(k:Nat)(h:k<es.length):itemsTo es (k+1)=itemsTo es k+itemsOf es[k].f:=sum_take (fun e:FE=>itemsOf e.f) es k h
structure GoodE (e:FE):Prop where
 names: ∀x∈e.kids,nameOK x.name.data.toList=true
 tgt:e.f.kind=2→tgtOK e.f.target.data.toList=true
 strs:e.f.streams.length≤4
 data: ∀s∈e.f.streams,s.2.size≤65536
 kids:e.kids.length≤64
theorem flSt_mem(n:Nat)(kids:List (NT n))(b:Nat): ∀k,k≤kids.length→ ∀e∈(flSt n kids b k).2, ∃x∈kids, ∃b',e∈fl n x b':=fun k=>by
 induction k with
 |zero=>intro _ e h;rw[flSt_zero] at h;simp at h
 |succ k ih=>
  intro hk e h
  rw[flSt_succ n kids b k hk] at h
  rcases List.mem_append.1 h with h|h
  ·exact ih (by omega) e h
  ·exact ⟨_,List.getElem_mem hk,_,h⟩
theorem fl_good: ∀(n:Nat) (t:NT n) (l b:Nat),1≤l→ntOK n t l=true→ntCount n t≤64→ntBytes n t≤65536→ ∀e∈fl n (ntView n t) b,GoodE e
 |0,_,_,_,_,_,_,_=>fun e h=>by simp[fl] at h
 |n+1,(f,kids),l,b,hl,hok,hc,hz=>fun e he=>by
  obtain ⟨h1,h2⟩:=ntOK_parts hok
  obtain ⟨-, -, -, -, -, -,h7,h8⟩:=oneOK_parts h1
  obtain ⟨-, -, -, -,z5⟩:=nf_bounds hz
  have hkl:=kids_len hc
  rw[ntView_def,fl_def] at he
  rcases List.mem_cons.1 he with rfl|he
  ·refine ⟨fun x hx=>?_,fun hk=>?_,?_,fun s hs=>(z5 s hs).2,?_⟩
   ·obtain ⟨y,hy,rfl⟩:=List.mem_map.1 hx
    obtain ⟨k,hk,rfl⟩:=List.mem_map.1 hy
    rw[viewF_name]
    exact ntOK_name (h2 k (List.mem_filter.1 hk).1) hl
   ·unfold okTgt at h7
    have hk':f.kind=2:=hk
    rw[decide_eq_true hk'] at h7
    simp at h7
    exact h7
   ·unfold okSizes at h8
    rw[Bool.and_eq_true,decide_eq_true_eq,decide_eq_true_eq] at h8
    exact h8.2
   ·show (List.map (ntF n) (shownKids n kids)).length≤64
    rw[List.length_map]
    unfold shownKids
    rw[List.length_map]
    exact Nat.le_trans (List.length_filter_le _ _) hkl
  ·obtain ⟨x,hx,b',h⟩:=flSt_mem n _ _ _ (Nat.le_refl _) e he
   obtain ⟨k,hk,rfl⟩:=List.mem_map.1 hx
   have hk':=(List.mem_filter.1 hk).1
   obtain ⟨j,hj,rfl⟩:=List.mem_iff_getElem.1 hk'
   exact fl_good n kids[j] (l+1) b' (by omega) (h2 _ hk') (Nat.le_trans (kid_count (f:=f) hj) hc) (Nat.le_trans (kid_bytes (f:=f) hj) hz) e h
theorem outside_le(n:Nat):outside n≤n:=by unfold outside;split <;> omega
theorem linkTo_le{l:List (List UInt8)}(h: ∀p∈l,partLen p≤300): ∀k,k≤l.length→linkTo l k≤k*300
 |0,_=>by simp[linkTo]
 |k+1,hk=>by
  rw[linkTo_succ l k hk]
  have:=linkTo_le h k (by omega)
  have:=h _ (List.getElem_mem hk)
  omega
theorem linkLen_le{l:List UInt8}(h:tgtOK l=true):linkLen l≤50000:=by
 unfold tgtOK at h
 rw[Bool.and_eq_true,Bool.and_eq_true,decide_eq_true_eq,decide_eq_true_eq,Bool.or_eq_true,decide_eq_true_eq] at h
 obtain ⟨⟨ha,hb⟩,hc⟩:=h
 have hs:(stripS l).length≤128:=by
  unfold stripS
  split
  ·rw[List.length_tail];omega
  ·omega
 have hp:=(parts47_len (stripS l)).2
 have hall: ∀p∈parts47 (stripS l),partLen p≤300:=fun p hp=>by
  rcases hc with hc|hc
  ·have e:parts47 (stripS l)=[[]]:=by rw[hc];rfl
   rw[e] at hp
   simp at hp
   subst hp
   rw[show partLen []=0 by unfold partLen;simp];omega
  ·obtain ⟨k,hk,rfl⟩:=List.mem_iff_getElem.1 hp
   rcases tgtTo_part hc k hk with h|h|h
   ·rw[h,partLen_dot];omega
   ·rw[h,partLen_dots];omega
   ·rw[partLen_name h];have:=(nameOK_parts h).2.2.1;omega
 have:=linkTo_le hall _ (Nat.le_refl _)
 unfold linkLen
 split <;> omega
theorem fidsTo_le(kids:List NF)(h: ∀x∈kids,nameOK x.name.data.toList=true): ∀k,k≤kids.length→fidsTo kids k≤k*400
 |0,_=>by simp[fidsTo]
 |k+1,hk=>by
  rw[fidsTo_succ kids k hk]
  have:=fidsTo_le kids h k (by omega)
  have:=fidLen_le (h _ (List.getElem_mem hk))
  omega
theorem contLen_le{e:FE}(h:GoodE e):contLen e.f e.kids≤60000:=by
 unfold contLen
 split
 ·rename_i hk;have:=linkLen_le (h.tgt hk);omega
 ·have:=fidsTo_le e.kids h.names _ (Nat.le_refl _)
  have:=h.kids
  omega
theorem selfLen_le{e:FE}(h:GoodE e):selfLen e.f e.kids≤60000:=by
 unfold selfLen
 split
 ·omega
 ·exact Nat.le_trans (outside_le _) (contLen_le h)
theorem strTo_le(l:List (ByteArray × ByteArray))(h: ∀s∈l,s.2.size≤65536): ∀k,k≤l.length→strTo l k≤k*65537
 |0,_=>by simp[strTo]
 |k+1,hk=>by
  rw[strTo_succ l k hk]
  have:=strTo_le l h k (by omega)
  have:=outside_le l[k].2.size
  have:=h _ (List.getElem_mem hk)
  omega
theorem cntOf_le{e:FE}(h:GoodE e):cntOf e.f e.kids≤400000:=by
 have h1:=selfLen_le h
 have h2:=strTo_le e.f.streams h.data _ (Nat.le_refl _)
 have h3:=h.strs
 unfold cntOf
 split <;> omega
theorem cntTo_le(es:List FE)(h: ∀e∈es,GoodE e): ∀k,k≤es.length→cntTo es k≤k*400000
 |0,_=>by simp[cntTo]
 |k+1,hk=>by
  rw[cntTo_succ es k hk]
  have:=cntTo_le es h k (by omega)
  have:=cntOf_le (h _ (List.getElem_mem hk))
  omega
theorem itemsTo_le(es:List FE)(h: ∀e∈es,GoodE e): ∀k,k≤es.length→itemsTo es k≤k*6
 |0,_=>by simp[itemsTo]
 |k+1,hk=>by
  rw[itemsTo_succ es k hk]
  have:=itemsTo_le es h k (by omega)
  have:=(h _ (List.getElem_mem hk)).strs
  unfold itemsOf
  split <;> omega
end Go.Proofs.YtbeccmkegckjjaaGreatDoor
end
section
namespace Go.Proofs.YtbeccmkegckjjaaGreatDoor
open Go.RowKit
set_option maxRecDepth 1000000
set_option maxHeartbeats 3200000
theorem own_kp{w w':World}{base:Nat}{e:TypeId}{size:Nat}{v:Value}{n:Nat}{xs:List Value}{D:Nat→Prop}(h:w.ownsRow base e size v n xs)(hk:Kp D w w')(hv: ∀b,v.ownBlock=some b→ ¬D b):w'.ownsRow base e size v n xs:=by
 refine ⟨h.1,?_⟩
 rcases h.2 with hn|⟨g,cap,cur,rfl,hb,hg,rest⟩
 ·exact .inl hn
 ·exact .inr ⟨g,cap,cur,rfl,hb,by rw[hk.block g (Array.getElem?_eq_some_iff.1 hg).1 (hv g rfl)];exact hg,rest⟩
theorem own_heap{w:World}{base:Nat}{e:TypeId}{size:Nat}{v:Value}{n:Nat}{xs:List Value}(h:w.ownsRow base e size v n xs)(b:Nat)(hb:v.ownBlock=some b): ∃cur,w.heap[b]? =some (.cells cur e (0,0)):=by
 rcases h.2 with ⟨rfl,_⟩|⟨g,cap,cur,rfl,_,hg,_⟩
 ·cases hb
 ·injection hb with hb
  subst hb
  exact ⟨_,hg⟩
theorem own_ne{w:World}{base base':Nat}{e e':TypeId}{size size':Nat}{v v':Value}{n n':Nat}{xs xs':List Value}(h:w.ownsRow base e size v n xs)(h':w.ownsRow base' e' size' v' n' xs')(hne:e≠e'): ∀b,v.ownBlock=some b→v'.ownBlock≠some b:=fun b hb hb'=>by
 obtain ⟨c,h1⟩:=own_heap h b hb
 obtain ⟨c',h2⟩:=own_heap h' b hb'
 rw[h1] at h2
 injection h2 with h2
 injection h2 with _ h2
 exact hne h2
theorem Box.ne_own{ty:TypeId}{g:Nat}{vs:List Value}{w:World}{base:Nat}{e:TypeId}{size:Nat}{v:Value}{n:Nat}{xs:List Value}(hb:Box ty g vs w)(h:w.ownsRow base e size v n xs)(hne:ty≠e): ∀b,v.ownBlock=some b→b≠g:=fun b hv hbg=>by
 subst hbg
 obtain ⟨c,h1⟩:=own_heap h b hv
 have h2:=hb
 unfold Box at h2
 rw[h1] at h2
 injection h2 with h2
 injection h2 with _ h2
 exact hne h2.symm
structure PS (w0 w:World) (gp:Nat) (nv pv ev:Value) (k m c:Nat):Prop where
 lt:gp<w0.heap.size
 frame:Kp (fun b=>b=gp) w0 w
 box:Box 70 gp [nv,pv,ev, .int .i64 (c:Int)] w
 places: ∃xs,w.ownsRow w0.heap.size 132 4 pv k xs
 entries: ∃ys,w.ownsRow w0.heap.size 3 1 ev m ys
theorem PS.step{w0 w w':World}{gp:Nat}{nv pv ev:Value}{k m c:Nat}(h:PS w0 w gp nv pv ev k m c)(hb:Below w.heap.size w w'):PS w0 w' gp nv pv ev k m c:=
 ⟨h.lt,h.frame.far (Kp.of (C:=fun _=>False) hb) fun _ h=>h.elim,h.box.step hb,h.places.elim fun xs hx=>⟨xs,own_below' hx hb⟩,h.entries.elim fun xs hx=>⟨xs,own_below' hx hb⟩⟩
theorem PS.kp{w0 w w':World}{gp:Nat}{nv pv ev:Value}{k m c:Nat}{D:Nat→Prop}(h:PS w0 w gp nv pv ev k m c)(hk:Kp D w w')(hD: ∀b,D b→w0.heap.size≤b∧pv.ownBlock≠some b∧ev.ownBlock≠some b):PS w0 w' gp nv pv ev k m c:=by
 have hl:=h.lt
 refine ⟨h.lt,h.frame.far hk fun b hb=> .inr (hD b hb).1,h.box.kp hk fun hd=>by have:=(hD gp hd).1;omega,h.places.elim fun xs hx=>⟨xs,own_kp hx hk fun b hb hd=>(hD b hd).2.1 hb⟩,h.entries.elim fun xs hx=>⟨xs,own_kp hx hk fun b hb hd=>(hD b hd).2.2 hb⟩⟩
theorem PS.count{w0 w:World}{gp:Nat}{nv pv ev:Value}{k m c:Nat}(h:PS w0 w gp nv pv ev k m c)(c':Nat):PS w0 (w.setCell ⟨gp,3,none⟩ (.int .i64 (c':Int))) gp nv pv ev k m c':=by
 have hk:=Kp.setIn w gp 3 (.int .i64 (c':Int))
 have hl:=h.lt
 exact ⟨h.lt,h.frame.far hk fun b hb=> .inl hb,h.box.setCell 3 _,h.places.elim fun xs hx=>⟨xs,own_kp hx hk fun b hb hd=>by have:=(hx.lt b hb).1;omega⟩,h.entries.elim fun xs hx=>⟨xs,own_kp hx hk fun b hb hd=>by have:=(hx.lt b hb).1;omega⟩⟩
theorem PS.entry{w0 w w1 w':World}{gp:Nat}{nv pv ev ev':Value}{k m c:Nat}{ys zs:List Value}(h:PS w0 w gp nv pv ev k m c)(hy:w.ownsRow w0.heap.size 3 1 ev m ys)(h01:Below w.heap.size w w1)(ho:w'.ownsRow w0.heap.size 3 1 ev' (m+1) zs)(hg:w1.grownBy w' ev.ownBlock):
 w'.cell? ⟨gp,2,none⟩=some ev∧w'.frozen? ⟨gp,2,none⟩=false∧PS w0 (w'.setCell ⟨gp,2,none⟩ ev') gp nv pv ev' k (m+1) c∧Kp (fun b=>b=gp∨ev.ownBlock=some b) w (w'.setCell ⟨gp,2,none⟩ ev'):=by
 have hl:=h.lt
 have hk1:Kp (fun b=>ev.ownBlock=some b) w w':=(Kp.of h01).trans (Kp.of_grown hg fun g hg=>hg)
 have hgp: ¬ev.ownBlock=some gp:=fun e=>by have:=(hy.lt gp e).1;omega
 have hbox:=h.box.kp hk1 hgp
 have hk2:=Kp.setIn w' gp 2 ev'
 refine ⟨hbox.cell 2 _ rfl,hbox.frozen 2,⟨h.lt,(h.frame.far hk1 fun b hb=> .inr (hy.lt b hb).1).far hk2 fun b hb=> .inl hb,hbox.setCell 2 _,?_,?_⟩,(hk1.wk fun b hb=> .inr hb).trans (hk2.wk fun b hb=> .inl hb)⟩
 ·obtain ⟨xs,hx⟩:=h.places
  exact ⟨xs,own_kp (own_kp hx hk1 fun b hb hd=>own_ne hx hy (by decide) b hb hd) hk2 fun b hb hd=>by have:=(hx.lt b hb).1;omega⟩
 ·exact ⟨zs,own_kp ho hk2 fun b hb hd=>by have:=(ho.lt b hb).1;omega⟩
theorem PS.place{w0 w w1 w':World}{gp:Nat}{nv pv pv' ev:Value}{k m c:Nat}{ys zs:List Value}(h:PS w0 w gp nv pv ev k m c)(hy:w.ownsRow w0.heap.size 132 4 pv k ys)(h01:Below w.heap.size w w1)(ho:w'.ownsRow w0.heap.size 132 4 pv' (k+1) zs)(hg:w1.grownBy w' pv.ownBlock):
 w'.cell? ⟨gp,1,none⟩=some pv∧w'.frozen? ⟨gp,1,none⟩=false∧PS w0 (w'.setCell ⟨gp,1,none⟩ pv') gp nv pv' ev (k+1) m c:=by
 have hl:=h.lt
 have hk1:Kp (fun b=>pv.ownBlock=some b) w w':=(Kp.of h01).trans (Kp.of_grown hg fun g hg=>hg)
 have hgp: ¬pv.ownBlock=some gp:=fun e=>by have:=(hy.lt gp e).1;omega
 have hbox:=h.box.kp hk1 hgp
 have hk2:=Kp.setIn w' gp 1 pv'
 refine ⟨hbox.cell 1 _ rfl,hbox.frozen 1,⟨h.lt,(h.frame.far hk1 fun b hb=> .inr (hy.lt b hb).1).far hk2 fun b hb=> .inl hb,hbox.setCell 1 _,?_,?_⟩⟩
 ·exact ⟨zs,own_kp ho hk2 fun b hb hd=>by have:=(ho.lt b hb).1;omega⟩
 ·obtain ⟨xs,hx⟩:=h.entries
  exact ⟨xs,own_kp (own_kp hx hk1 fun b hb hd=>own_ne hx hy (by decide) b hb hd) hk2 fun b hb hd=>by have:=(hx.lt b hb).1;omega⟩
end Go.Proofs.YtbeccmkegckjjaaGreatDoor
end
