/- Law 43, UdfbuildSizes: a part of the proof. -/
import Derived.Test.YtbeccmkegckjjaaGreatDoorQ32
import Derived.Test.YtbeccmkegckjjaaGreatDoorQ31
import Derived.Deep.DeepCutAuto
import Derived.Deep.RegionWith
section
namespace Go.Proofs.YtbeccmkegckjjaaGreatDoor
open Go.RowKit
set_option maxRecDepth 1000000
set_option maxHeartbeats 3200000
theorem FlatR.setItem{T:TypeId}{B base:Nat}{C:Nat→Prop}{w:World}{g m cap:Nat}{es:List FE}{cs:List (List Value)}{kvs:List Value}(h:FlatR T tailP B base C w (.slice (some ⟨g,0,none⟩) m cap) es cs kvs)(j:Nat)(hj:j<es.length)(i:Int)(hBg:B≤g)(hB:B≤w.heap.size):
 ∃cs',FlatR T tailP B base C (w.setCell ⟨g,j*16+15,none⟩ (.int .i64 i)) (.slice (some ⟨g,0,none⟩) m cap) es cs' kvs:=by
 have hlc:=h.lc
 have hlk:=h.lk
 have hap:=h.aprt
 rw[List.pairwise_cons] at hap
 have hk:=Kp.setIn w g (j*16+15) (.int .i64 i)
 have hb:Below B w (w.setCell ⟨g,j*16+15,none⟩ (.int .i64 i)):=hk.below (fun b hb=>by omega) hB
 refine ⟨cs.set j ((cs[j]'(by omega)).set 15 (.int .i64 i)),by simp[hlc],hlk,?_,fun a h0 h1 h2=>?_,fun a h0 h2=>?_,h.aprt,h.blk⟩
 ·rw[flat_set 16 cs h.rows j 15 (.int .i64 i) (by omega) (by omega)]
  exact own_set h.own rfl _ (by have:(j+1)*16≤es.length*16:=Nat.mul_le_mul_right _ hj;omega) _
 ·rw[List.getElem_set]
  by_cases ha:j=a
  ·subst ha
   rw[if_pos rfl]
   obtain ⟨a1,a2,a3,tl,e1,e2,⟨p,x,u,rfl⟩,e4⟩:=(h.ent j h0 (by omega) h2).below hb
   refine ⟨a1,a2,a3,[.string p, .int .i64 x,kvs[j], .int .i64 i],?_,rfl,⟨p,x,i,rfl⟩,e4⟩
   rw[e1,List.set_append_right _ _ (by show 12≤15;omega)]
   rfl
  ·rw[if_neg ha]
   exact (h.ent a h0 (by omega) h2).below hb
 ·exact own_kp (h.ints a h0 h2) hk fun b' hb' hd=>hap.1 _ (List.getElem_mem h2) g rfl (by rw[←hd];exact hb')
end Go.Proofs.YtbeccmkegckjjaaGreatDoor
end
section
namespace Go.Proofs.YtbeccmkegckjjaaGreatDoor
open Go.RowKit
set_option maxRecDepth 1000000
set_option maxHeartbeats 25600000
theorem stream_sz:(Tryz.prog.info? 122).map (·.size)=some 2:=by kernel_rfl
theorem OS.both{wB w:World}{go:Nat}{nv iv:Value}{m c:Nat}(h:OS wB w go nv iv m c)(g q:Nat)(v:Value)(hg:g<wB.heap.size)(hne:g≠go):OS (wB.setCell ⟨g,q,none⟩ v) (w.setCell ⟨g,q,none⟩ v) go nv iv m c:=by
 have hk:=Kp.setIn w g q v
 have hs:(wB.setCell ⟨g,q,none⟩ v).heap.size=wB.heap.size:=by simp[World.setCell]
 have hs':(w.setCell ⟨g,q,none⟩ v).heap.size=w.heap.size:=by simp[World.setCell]
 refine ⟨by rw[hs];exact h.lt,⟨h.frame.os,h.frame.tape,h.frame.output,by rw[hs,hs'];exact h.frame.size,fun b hb hn=>?_⟩,h.box.kp hk fun e=>hne e.symm,h.items.elim fun xs hx=>⟨xs,by rw[hs];exact own_kp hx hk fun b hb hd=>by have:=(hx.lt b hb).1;omega⟩⟩
 rw[hs] at hb
 have h1:=h.frame.block b hb hn
 by_cases hbg:b=g
 ·subst hbg
  simp[World.setCell,Array.getElem?_modify,h1]
 ·rw[(Kp.setIn w g q v).block b (Nat.lt_of_lt_of_le hb h.frame.size) hbg,(Kp.setIn wB g q v).block b hb hbg,h1]
theorem FlatR.itAt{T:TypeId}{B base:Nat}{C:Nat→Prop}{w:World}{g m cap:Nat}{es:List FE}{cs:List (List Value)}{kvs:List Value}(h:FlatR T tailP B base C w (.slice (some ⟨g,0,none⟩) m cap) es cs kvs)(j:Nat)(hj:j<es.length):
 (∃i:Int,w.cell? ⟨g,j*16+15,none⟩=some (.int .i64 i))∧ ∃cur,w.heap[g]? =some (.cells cur T (0,0)):=by
 have hlc:=h.lc
 have hlk:=h.lk
 refine ⟨?_,?_⟩
 ·rw[h.at j 15 hj (by omega) (by omega)]
  obtain ⟨a1,a2,a3,tl,e1,e2,⟨p,x,u,rfl⟩, -⟩:=h.ent j hj (by omega) (by omega)
  rw[e1]
  exact ⟨u,rfl⟩
 ·exact own_heap h.own g rfl
theorem FlatR.node2{T:TypeId}{tail:List Value→Value→Prop}{B base:Nat}{C:Nat→Prop}{w:World}{g m cap:Nat}{es:List FE}{cs:List (List Value)}{kvs:List Value}(h:FlatR T tail B base C w (.slice (some ⟨g,0,none⟩) m cap) es cs kvs)(j:Nat)(hj:j<es.length):
 ∃(ka:Option Addr) (kc:Nat) (sa:Option Addr) (sc:Nat) (kcs:List (List Value)),(∀q x,(nfCells es[j].f (.slice ka es[j].kids.length kc) (.slice sa es[j].f.streams.length sc))[q]? =some x→w.cell? ⟨g,j*16+q,none⟩=some x)∧
  RowV w (· < B) (.slice ka es[j].kids.length kc) 12 kcs∧kcs.length=es[j].kids.length∧(∀k,(h:k<es[j].kids.length)→(h':k<kcs.length)→ ∃(a a2:Option Addr) (l c l2 c2:Nat),kcs[k]=nfCells es[j].kids[k] (.slice a l c) (.slice a2 l2 c2))∧
  ∀i,(hi:i<es[j].f.streams.length)→ ∃b off,sa=some ⟨b,off,none⟩∧b<B∧ ∀q x,([.string es[j].f.streams[i].1, .string es[j].f.streams[i].2]:List Value)[q]? =some x→w.cell? ⟨b,off+i*2+q,none⟩=some x:=by
 have hlc:=h.lc
 have hlk:=h.lk
 obtain ⟨nkv,nsv,kcs,tl,e1, -, -,⟨sa,sc,rfl,hs⟩,hkv,hkl,hce⟩:=h.ent j hj (by omega) (by omega)
 have hkv':=hkv
 obtain ⟨ka,kc,rfl, -⟩:=hkv'
 rw[hkl] at hkv e1
 refine ⟨ka,kc,sa,sc,kcs,fun q x hq=>?_,hkv,hkl,hce,fun i hi=>?_⟩
 ·rw[strCells_len] at e1
  have hlt:q<12:=(List.getElem?_eq_some_iff.1 hq).1
  rw[h.at j q hj (by omega) (by omega),e1,List.getElem?_append_left (by exact hlt)]
  exact hq
 ·obtain ⟨b,off,q1,q2,q3⟩:=hs i (by rw[strCells_len];exact hi)
  refine ⟨b,off,q1,q2,fun q x hx=>q3 q x ?_⟩
  rw[strCells_get _ _ hi];exact hx
theorem outside_zero:outside 0=0:=by decide
def OutR(w:World)(B go g nc S6:Nat)(C:Nat→Prop)(base:Nat)(es:List FE)(k:Nat)(wr:World):Prop:=
 ∃(wB:World) (cs:List (List Value)) (kvs:List Value) (iv:Value),Below w.heap.size w wB∧wB.heap.size=S6∧FlatR 119 tailP B base C wB (.slice (some ⟨g,0,none⟩) es.length nc) es cs kvs∧OS wB wr go (.slice (some ⟨g,0,none⟩) es.length nc) iv (itemsTo es k) (cntTo es k)
theorem OutR.store{w wB w7:World}{B go g nc S6 base:Nat}{C:Nat→Prop}{es:List FE}{cs:List (List Value)}{kvs:List Value}{iv:Value}{m c:Nat}(h1:Below w.heap.size w wB)(h2:wB.heap.size=S6)(h3:FlatR 119 tailP B base C wB (.slice (some ⟨g,0,none⟩) es.length nc) es cs kvs)
 (h4:OS wB w7 go (.slice (some ⟨g,0,none⟩) es.length nc) iv m c) (k:Nat) (hk:k<es.length) (i:Int) (hBg:B≤g) (hB:B≤S6) (hwB:w.heap.size≤B) (hne:g≠go):
 ∃(wB':World) (cs':List (List Value)),Below w.heap.size w wB'∧wB'.heap.size=S6∧FlatR 119 tailP B base C wB' (.slice (some ⟨g,0,none⟩) es.length nc) es cs' kvs∧OS wB' (w7.setCell ⟨g,k*16+15,none⟩ (.int .i64 i)) go (.slice (some ⟨g,0,none⟩) es.length nc) iv m c:=by
 obtain ⟨cs',h5⟩:=h3.setItem k hk i hBg (by omega)
 have hgl:g<wB.heap.size:=by
  obtain ⟨cur,hc⟩:=own_heap h3.own g rfl
  exact (Array.getElem?_eq_some_iff.1 hc).1
 refine ⟨_,cs',h1.trans ((Kp.setIn wB g (k*16+15) (.int .i64 i)).below (fun b hb=>by omega) h1.size),by simp[World.setCell,h2],h5,h4.both g _ _ hgl hne⟩
def OutS(w wr:World)(B go g nc S6 gn:Nat)(C:Nat→Prop)(base:Nat)(es:List FE)(cells:List Value)(m c:Nat)(wx:World):Prop:=
 (∃(wB:World) (cs:List (List Value)) (kvs:List Value) (iv:Value),Below w.heap.size w wB∧wB.heap.size=S6∧FlatR 119 tailP B base C wB (.slice (some ⟨g,0,none⟩) es.length nc) es cs kvs∧OS wB wx go (.slice (some ⟨g,0,none⟩) es.length nc) iv m c)∧
   Box 25 gn cells wx∧Below B wr wx
theorem OutS.step{w wr wx w':World}{B go g nc S6 gn base:Nat}{C:Nat→Prop}{es:List FE}{cells:List Value}{m c:Nat}(h:OutS w wr B go g nc S6 gn C base es cells m c wx)(hB:B≤S6)(hb:Below wx.heap.size wx w'):OutS w wr B go g nc S6 gn C base es cells m c w':=by
 obtain ⟨⟨wB,cs,kvs,iv,h1,h2,h3,h4⟩,h5,h6⟩:=h
 exact ⟨⟨wB,cs,kvs,iv,h1,h2,h3,h4.step hb⟩,h5.step hb,h6.trans (hb.mono (by have:=h4.frame.size;omega))⟩
theorem OutS.put{w wr wx:World}{B go g nc S6 gn base:Nat}{C:Nat→Prop}{es:List FE}{cells:List Value}{m c:Nat}(h:OutS w wr B go g nc S6 gn C base es cells m c wx)(kind node stream len:Nat)(hB:B≤S6)(hBg:B≤go)(hm:m≤100000)(hc:c≤100000000)(hl:len≤100000000):
 Calls Tryz.prog 46 #[.pointer (some ⟨go,0,none⟩), .int .i64 (kind:Int), .int .i64 (node:Int), .int .i64 (stream:Int), .int .i64 (len:Int)] wx fun e w'=>e= .returned (.tuple #[])∧OutS w wr B go g nc S6 gn C base es cells (m+1) (c+(1+outside len)) w':=by
 obtain ⟨⟨wB,cs,kvs,iv,h1,h2,h3,h4⟩,h5,h6⟩:=h
 refine (p_put wB wx go _ iv m c kind node stream len h4 hm hc hl).mono ?_
 rintro e w' ⟨rfl,iv',h7,hk⟩
 obtain ⟨xs,hx⟩:=h4.items
 have hgn: ¬(gn=go∨iv.ownBlock=some gn):=by
  rintro (e|e)
  ·subst e
   have e1:=h5
   have e2:=h4.box
   unfold Box at e1 e2
   rw[e1] at e2
   injection e2 with e2
   injection e2 with _ e2
   exact absurd e2 (by decide)
  ·exact h5.ne_own hx (by decide) gn e rfl
 exact ⟨rfl,⟨wB,cs,kvs,iv',h1,h2,h3,h7⟩,h5.kp hk hgn,h6.trans (hk.below (fun b hb=>hb.elim (fun e=>by omega) fun e=>by have:=(hx.lt b e).1;omega) (by have:=h4.frame.size;omega))⟩
theorem p_outlined(n:Nat)(t:NT n)(vs:List Value)(B:Nat)(w:World)(h:NodeV w (· < B) n t vs)(_:B≤w.heap.size)(hT:TabsM w)(hok:treeOK n t=true)(hc:ntCount n t≤64)(hz:ntBytes n t≤40000)(hn:n≤90)
 (hview: ∀(W:World),Below w.heap.size w W→Calls Tryz.prog 43 #[.int .i64 3, .agg vs.toArray] W fun e w'=>(∃vs':List Value,e= .returned (.tuple #[.agg vs'.toArray, .int .i64 0])∧NodeV w' (Fr W.heap.size w') n (ntView n t) vs')∧Below W.heap.size W w'):
 Calls Tryz.prog 15 #[.agg vs.toArray] w fun e w'=> ∃(go:Nat) (ia:Option Addr) (ic:Nat),e= .returned (.pointer (some ⟨go,0,none⟩))∧w'.cell? ⟨go,1,none⟩=some (.slice ia (itemsTo (fl n (ntView n t) 0) (fl n (ntView n t) 0).length) ic)∧
  w'.cell? ⟨go,2,none⟩=some (.int .i64 (cntTo (fl n (ntView n t) 0) (fl n (ntView n t) 0).length:Int))∧Below w.heap.size w w':=by
 obtain ⟨a,a2,l,c,l2,c2,rfl⟩:=h.cellsF
 have HV:=hQ hview
 have hz6:ntBytes n t≤65536:=by omega
 have HG:=hQ (fl_good n t 1 0 (Nat.le_refl _) hok hc hz6)
 have hvc:=Nat.le_trans (ntCount_view n t) hc
 have hpos:0<(fl n (ntView n t) 0).length:=by rw[fl_len];exact ntCount_pos n _
 have HLEN:=hQ (show (fl n (ntView n t) 0).length≤64 by rw[fl_len];exact hvc)
 have HADD:=hQ (show ∀(vs':List Value) (W:World) (B' go' base:Nat),NodeV W (· < B') n (ntView n t) vs'→B'≤go'→go'<base→base≤W.heap.size→Box 116 go' [.slice none 0 0, .slice none 0 0, .int .i64 0] W→
  Calls Tryz.prog 44 #[.pointer (some ⟨go',0,none⟩), .agg vs'.toArray, .string ⟨#[]⟩, .int .i64 0] W fun e w'=> ∃(v':Value) (cs':List (List Value)) (kvs':List Value),e= .returned (.int .i64 0)∧
   FlatR 119 tailP B' base (Cr (fun _=>False) W.heap.size w') w' v' (fl n (ntView n t) 0) cs' kvs'∧Kp (fun b=>False∨b=go') W w'∧Box 116 go' [v', .slice none 0 0, .int .i64 0] w' from
  fun vs' W B' go' base h1 h2 h3 h4 h5=>p_addN n (ntView n t) vs' B' base go' (fun _=>False) W (.slice none 0 0) (.slice none 0 0) (.int .i64 0) [] [] [] ⟨#[]⟩ 0 h1 h2 h3 h4 (FlatR.nil _ _ _ _ _ _) (fun b hb=>hb.elim) h5 (by simpa using hvc) (Nat.le_trans (ntBytes_view n t) hz6) (by show 0+n*70000≤_;omega) (by omega))
 have HB0:=hQ (Box.new (ty:=25) w (nfCells (ntF n t) (.slice a l c) (.slice a2 l2 c2)))
 have hb1:=below_alloc1 w (.cells (nfCells (ntF n t) (.slice a l c) (.slice a2 l2 c2)).toArray 25)
 have HT:=hQ hT
 clear h hc hz hz6 hvc hview hT hok
 generalize ntF n t=f0 at*
 generalize hes:fl n (ntView n t) 0=es at*
 clear hes
 unfold nfCells at HB0 hb1 HV ⊢
 go_enter Tryz.func15,Tryz.ntmps15
 go_upto_region 1 with (fail)
 have hboxA:Box 25 w.heap.size (nfCells f0 (.slice a l c) (.slice a2 l2 c2)) _:=HB0.out
 generalize w.alloc _=w2 at*
 clear HB0
 have hbU:=hboxA
 unfold nfCells at hbU
 go_wp2_with (first
  |(refine wpList_load_row rfl _ _ rfl w.heap.size _ _ _ rfl hbU Tryz.underlying25 rfl 12 node_size rfl ?_)
  |fail)
 refine (HV.out _ hb1).mono ?_
 rintro e w3 ⟨⟨vs',rfl,hnv⟩,hb3⟩
 obtain ⟨b1,b2,d1,e1,d2,e2,rfl⟩:=hnv.cellsF
 have HNV:=hQ hnv.fr_lt
 have hbw3:=hb1.trans (hb3.mono hb1.size)
 clear hboxA hbU hb1 hb3 HV hnv
 generalize ntF n (ntView n t)=f1 at*
 go_upto_region 2 with (first
  |(refine wpList_store_row rfl _ _ _ rfl w3.heap.size _ nodeZ (nfCells f1 (.slice b1 d1 e1) (.slice b2 d2 e2)).toArray rfl rfl (heap_alloc_last _ _) 12 node_size rfl rfl (node_one _ _ _ _ _ _ _) ?_)
  |go_in)
 have hst:=box_store 25 w3 nodeZ (nfCells f1 (.slice b1 d1 e1) (.slice b2 d2 e2))
 unfold nodeZ at hst
 generalize World.setRow _ _ _=w4 at hst ⊢
 obtain ⟨hboxV,hb4⟩:=hst
 have hlt4:=hboxV.lt
 have HBO:=hQ (Box.new (ty:=116) w4 [.slice none 0 0, .slice none 0 0, .int .i64 0])
 have hb5:=below_alloc1 w4 (.cells #[.slice none 0 0, .slice none 0 0, .int .i64 0] 116)
 have HS5:=hQ (show (w4.alloc (.cells #[.slice none 0 0, .slice none 0 0, .int .i64 0] 116)).heap.size=w4.heap.size+1 from alloc_size _ _)
 go_upto_region 3 with (fail)
 have hboxO:Box 116 w4.heap.size [.slice none 0 0, .slice none 0 0, .int .i64 0] _:=HBO.out
 generalize w4.alloc _=w5 at*
 clear HBO
 have hboxV5:=hboxV.step hb5
 have hbw5:=hbw3.trans ((hb4.trans (hb5.mono hb4.size)).mono hbw3.size)
 have hsz5:w5.heap.size=w4.heap.size+1:=HS5.out
 have HADD5:=hQ (HADD.out _ w5 w3.heap.size w4.heap.size w5.heap.size (HNV.out.below (hb4.trans (hb5.mono hb4.size))) (by omega) (by omega) (Nat.le_refl _) hboxO)
 have hbU:=hboxV5
 unfold nfCells at hbU HADD5
 have HORD:=hQ (show w.heap.size≤w3.heap.size∧w3.heap.size≤w4.heap.size∧w4.heap.size<w5.heap.size from ⟨hbw3.size,by omega,by omega⟩)
 clear HADD HNV hboxV hboxV5 hboxO hb4 hb5 hbw3 HS5 hsz5 hlt4
 go_wp2_with (first
  |(refine wpList_load_row rfl _ _ rfl w3.heap.size _ _ _ rfl hbU Tryz.underlying25 rfl 12 node_size rfl ?_)
  |fail)
 refine HADD5.out.mono ?_
 rintro e w6 ⟨nv,cs,kvs,rfl,hfr6,hk6,hbO6⟩
 obtain ⟨g,nc,rfl,hg1,hg2⟩:=hfr6.own.form hpos
 have hbw6:=hbw5.trans (hk6.below (B:=w.heap.size) (fun b hb=>hb.elim (fun h=>h.elim) fun h=>by have:=HORD.out;omega) hbw5.size)
 have HI:=hQ (show OutR w w3.heap.size w4.heap.size g nc w6.heap.size (Cr (fun _=>False) w5.heap.size w6) w5.heap.size es 0 w6 from
  ⟨w6,cs,kvs, .slice none 0 0,hbw6,rfl,hfr6,⟨hbO6.lt,Kp.refl _ _,by simpa[cntTo] using hbO6,⟨[],by simpa[itemsTo] using World.ownsRow_nil _ _ _ _⟩⟩⟩)
 have HCG:=hQ (show ¬Cr (fun _=>False) w5.heap.size w6 w4.heap.size from fun hc=>hc.elim (fun h=>h) fun h=>by have:=HORD.out;omega)
 have HGB:=hQ (show w5.heap.size≤g from (hfr6.own.lt g rfl).1)
 have HS6:=hQ (show w5.heap.size≤w6.heap.size from hk6.size)
 have HBI:=hQ hk6.size
 have o0:=hbO6.cell 0 _ rfl
 clear HADD5 hbU hfr6 hk6 hbO6 hbw6 hbw5 HBI hg1 hg2
 generalize w3.heap.size=B3 at*
 generalize w4.heap.size=go at*
 generalize w5.heap.size=base at*
 generalize Cr (fun _=>False) base w6=C6 at*
 generalize w6.heap.size=S6 at*
 go_wp2_with fail
 clear o0
 go_loopw [26] (fun i wr=> ∃k:Nat,k≤es.length∧i= .int .i64 k∧OutR w B3 go g nc S6 C6 base es k wr) (fun i _=>es.length-(intOf i).toNat)
 case atStart=>exact ⟨0,Nat.zero_le _,rfl,HI.out⟩
 case round=>
  obtain ⟨k,hk,rfl,wB,cs',kvs',iv,hbB,hsB,hfB,hos⟩:=hrel
  clear HI
  obtain ⟨xsI,hxI⟩:=hos.items
  obtain ⟨ia,ic,rfl⟩:=own_slice hxI
  clear hxI
  have hord:=HORD.out
  have hbw:Below w.heap.size w wr:=hbB.trans (hos.frame.below (fun b hb=>by omega) hbB.size)
  by_cases hlt:k<es.length
  ·have hki:(k:Int)<es.length:=by omega
   have hgb:=HGB.out
   have hs6:=HS6.out
   have hlen:=HLEN.out
   have hB3r:B3≤wr.heap.size:=by have:=hos.frame.size;omega
   have hfr:=hfB.kp hos.frame (fun b hb=>⟨fun hc=>HCG.out (by rw[←hb];exact hc),by omega⟩) (by omega)
   obtain ⟨ka,kc,sa,sc,kcs,hcell,hkv,hkl,hce,hstr⟩:=hfr.node2 k hlt
   obtain ⟨⟨i0,q15⟩,cur15,h15⟩:=hfr.itAt k hlt
   have hgd:=HG.out _ (List.getElem_mem hlt)
   have HCT:=hQ (show cntTo es (k+1)=cntTo es k+(1+selfLen es[k].f es[k].kids+(if es[k].f.streams.length=0 then 0 else 1+strTo es[k].f.streams es[k].f.streams.length)) from cntTo_succ es k hlt)
   have HIT:=hQ (show itemsTo es (k+1)=itemsTo es k+(1+(if es[k].f.streams.length=0 then 0 else 1+es[k].f.streams.length)) from itemsTo_succ es k hlt)
   have hcl:=contLen_le hgd
   have hsl:=selfLen_le hgd
   have hcb:=cntTo_le es HG.out k (by omega)
   have hib:=itemsTo_le es HG.out k (by omega)
   have hss:=hgd.strs
   have HSELF:=hQ (show selfLen es[k].f es[k].kids=if es[k].f.kind=1 then 0 else outside (contLen es[k].f es[k].kids) from rfl)
   have hc64:(cntTo es k:Int)≤25600000:=by omega
   have hi64:(itemsTo es k:Int)≤384:=by omega
   have HDATA:=hQ hgd.data
   have HLN:=hQ (fun (W:World) (hb:Below B3 wr W)=>p_length es[k].f es[k].kids ka kc sa es[k].f.streams.length sc kcs B3 W (HT.out.step (hbw.trans (hb.mono hord.1))) (Nat.le_trans hB3r hb.size) (hkv.below hb) hkl hce hgd.names hgd.tgt hgd.kids)
   have HSTR:=hQ (fun (W:World) (hb:Below B3 wr W)=>show ∀i,(hi:i<es[k].f.streams.length)→ ∃b off,sa=some ⟨b,off,none⟩∧b<B3∧ ∀q x,([.string es[k].f.streams[i].1, .string es[k].f.streams[i].2]:List Value)[q]? =some x→W.cell? ⟨b,off+i*2+q,none⟩=some x from fun i hi=>by
    obtain ⟨b,off,x1,x2,x3⟩:=hstr i hi
    exact ⟨b,off,x1,x2,fun q x hx=>(hb.cell x2).trans (x3 q x hx)⟩)
   have HSTO:=hQ (fun (w7:World) (h7:OS wB w7 go (.slice (some ⟨g,0,none⟩) es.length nc) (.slice ia (itemsTo es k) ic) (itemsTo es k) (cntTo es k)) (i:Int)=>OutR.store hbB hsB hfB h7 k hlt i (by omega) (by omega) hord.1 (by omega))
   have HCLZ:=hQ hcl
   clear hfr hfB hcl hcb hib hgd hstr hkv hkl hce
   generalize hCN:cntTo es k=cn at*
   generalize hIT:itemsTo es k=it at*
   generalize hSF:selfLen es[k].f es[k].kids=sf at*
   generalize hEK:es[k].kids=kids at*
   generalize es[k].f=f at*
   clear hCN hIT hSF hEK
   have hgl:g<wr.heap.size:=World.block_lt_of_cell? _ _ q15
   have c0:=hos.box.cell 0 _ rfl
   generalize hCELLS:nfCells f (.slice ka kids.length kc) (.slice sa f.streams.length sc)=cells at*
   subst hCELLS
   go_upto_region 8 with (first
    |(refine wpList_load_at rfl _ _ rfl g (k*16) (nfCells f (.slice ka kids.length kc) (.slice sa f.streams.length sc)) _ rfl hcell Tryz.underlying25 rfl node_size ?_)
    |(refine wpList_store_row rfl _ _ _ rfl wr.heap.size _ nodeZ (nfCells f (.slice ka kids.length kc) (.slice sa f.streams.length sc)).toArray rfl rfl (heap_alloc_last _ _) 12 node_size rfl rfl (node_one _ _ _ _ _ _ _) ?_)
    |go_in)
   have hst:=box_store 25 wr nodeZ (nfCells f (.slice ka kids.length kc) (.slice sa f.streams.length sc))
   unfold nodeZ at hst
   generalize World.setRow _ _ _=w7 at hst ⊢
   obtain ⟨hboxN,hb7⟩:=hst
   have hos7:=hos.step hb7
   have hq7:=(hb7.cell hgl).trans q15
   have hf7:=frozen_of_row w7 g (k*16+15) cur15 _ ((hb7.block g hgl).trans h15)
   obtain ⟨wB2,cs2,t1,t2,t3,t4⟩:=HSTO.out w7 hos7 (it:Int)
   have HREL:=hQ (show OutS w wr B3 go g nc S6 wr.heap.size C6 base es (nfCells f (.slice ka kids.length kc) (.slice sa f.streams.length sc)) it cn ((w7.setCell ⟨g,k*16+15,none⟩ (.int .i64 (it:Int))).drew) from
    ⟨⟨wB2,cs2,kvs',_,t1,t2,t3,t4.step (below_drew (Below.refl _ _))⟩,(hboxN.kp (Kp.setIn w7 g (k*16+15) (.int .i64 (it:Int))) (by omega)).step (below_drew (Below.refl _ _)),
      ((hb7.mono hB3r).trans ((Kp.setIn w7 g (k*16+15) (.int .i64 (it:Int))).below (fun b hb=>by omega) (Nat.le_trans hB3r hb7.size))).trans ((below_drew (Below.refl _ _)).mono (by have:=hb7.size;simp;omega))⟩)
   have c0:=hos7.box.cell 0 _ rfl
   have c1:=hos7.box.cell 1 _ rfl
   clear hos hcell hos7 t1 t2 t3 t4 hboxN hb7 HSTO q15 h15
   generalize hGN:wr.heap.size=gn at*
   clear hGN
   simp only[Act.put]
   go_cut [] (fun wx=>OutS w wr B3 go g nc S6 gn C6 base es (nfCells f (.slice ka kids.length kc) (.slice sa f.streams.length sc)) it cn wx)
   case first=>
    go_region
    all_goals
     go_wp2_with fail
     go_meet
     case rel=>exact HREL.out
   case rest=>
    have HOS:=hQ hcut
    have n1:=hcut.2.1.cell 1 _ rfl
    have hbU:=hcut.2.1
    have HBW:=hQ hcut.2.2
    clear c0 c1 hq7 hf7 HREL hcut
    have hB6:B3≤S6:=by omega
    unfold nfCells at hbU HLN
    go_upto_if 51 with (fail)
    go_cut [8] (fun cv wx=> ∃cl:Nat,cv= .int .i64 (cl:Int)∧(cl≤60000∧outside cl=sf)∧OutS w wr B3 go g nc S6 gn C6 base es (nfCells f (.slice ka kids.length kc) (.slice sa f.streams.length sc)) it cn wx)
    case first=>
     by_cases h1:f.kind=1
     ·have k1:=eqB h1
      have HE:=hQ (show outside 0=sf by rw[HSELF.out,if_pos h1];exact outside_zero)
      clear h1
      go_wp2_with fail
      go_meet
      case rel=>exact ⟨0,rfl,⟨by omega,HE.out⟩,HOS.out⟩
     ·have k1:=neB h1
      have HE:=hQ (show outside (contLen f kids)=sf by rw[HSELF.out,if_neg h1])
      clear h1
      have HLN9:=hQ (HLN.out _ HBW.out)
      go_wp2_with (first
       |(refine wpList_load_row rfl _ _ rfl gn _ _ _ rfl hbU Tryz.underlying25 rfl 12 node_size rfl ?_)
       |fail)
      refine HLN9.out.mono ?_
      rintro e w9 ⟨rfl,hb9⟩
      have HO9:=hQ (HOS.out.step hB6 hb9)
      clear hbU n1 hb9
      go_wp2_with fail
      go_meet
      case rel=>exact ⟨_,rfl,⟨HCLZ.out,HE.out⟩,HO9.out⟩
    case rest=>
     obtain ⟨cl,rfl,⟨hcl,hocl⟩,hos⟩:=hcut
     have HPUT:=hQ (hos.put 0 k 0 cl hB6 hord.2.1 (by omega) (by omega) (by omega))
     rw[hocl] at HPUT
     have hclz:(cl:Int)≤60000:=by omega
     clear hos hcl hocl hbU n1 HOS HBW HLN HCLZ HSELF
     go_wp2_with fail
     refine HPUT.out.mono ?_
     rintro e w9 ⟨rfl,hos9⟩
     have n11:=hos9.2.1.cell 11 _ rfl
     have HOS9:=hQ hos9
     clear hos9 HPUT
     by_cases hs0:f.streams.length=0
     ·have hs1: ¬(0:Int)<f.streams.length:=by omega
      have hif:(if f.streams.length=0 then 0 else 1+strTo f.streams f.streams.length)=0:=if_pos hs0
      have hif2:(if f.streams.length=0 then 0 else 1+f.streams.length)=0:=if_pos hs0
      have HR:=hQ (show it+1=it+(1+(if f.streams.length=0 then 0 else 1+f.streams.length))∧cn+(1+sf)=cn+(1+sf+(if f.streams.length=0 then 0 else 1+strTo f.streams f.streams.length)) from ⟨by rw[hif2],by rw[hif];omega⟩)
      have HF:=hQ (show OutR w B3 go g nc S6 C6 base es (k+1) w9 from by
       unfold OutR
       rw[show itemsTo es (k+1)=it+1 by rw[HIT.out, ←HR.out.1],show cntTo es (k+1)=cn+(1+sf) by rw[HCT.out, ←HR.out.2]]
       exact HOS9.out.1)
      clear hs0 hif hif2 HOS9
      go_wp2
      go_roundw
      case rel=>exact ⟨k+1,by omega,by go_num,HF.out⟩
      case measure=>simp[intOf];omega
     ·have hs1:(0:Int)<f.streams.length:=by omega
      have HIF:=hQ (show (if f.streams.length=0 then 0 else 1+strTo f.streams f.streams.length)=1+strTo f.streams f.streams.length from if_neg hs0)
      have HIF2:=hQ (show (if f.streams.length=0 then 0 else 1+f.streams.length)=1+f.streams.length from if_neg hs0)
      clear hs0
      have HPUT:=hQ (HOS9.out.put 1 k 0 0 hB6 hord.2.1 (by omega) (by omega) (by omega))
      go_wp2_with fail
      refine HPUT.out.mono ?_
      clear n11
      rintro e w10 ⟨rfl,hos10⟩
      have n11:=hos10.2.1.cell 11 _ rfl
      have HOS10:=hQ hos10
      clear hos10 HPUT
      go_wp2_with fail
      clear n11
      go_loopw [68] (fun i wr2=> ∃(j m c:Nat),j≤f.streams.length∧i= .int .i64 j∧(m=it+1+1+j∧c=cn+(1+sf)+1+strTo f.streams j)∧OutS w wr B3 go g nc S6 gn C6 base es (nfCells f (.slice ka kids.length kc) (.slice sa f.streams.length sc)) m c wr2) (fun i _=>f.streams.length-(intOf i).toNat)
      case atStart=>exact ⟨0,_,_,Nat.zero_le _,rfl,⟨rfl,by rw[strTo_zero,outside_zero]⟩,HOS10.out⟩
      case round=>
       obtain ⟨j,m,c,hj,rfl,⟨hm,hcj⟩,hos⟩:=hrel
       clear HOS10
       by_cases hjl:j<f.streams.length
       ·have hji:(j:Int)<f.streams.length:=by omega
        obtain ⟨b,off,rfl,hbg,hcs⟩:=HSTR.out wr hos.2.2 j hjl
        have hdz:=HDATA.out _ (List.getElem_mem hjl)
        have HST:=hQ (strTo_succ f.streams j hjl)
        have hcz:(c:Int)≤30000000:=by
         have h1:=strTo_le f.streams HDATA.out j hj
         omega
        have hmz:(m:Int)≤1000:=by omega
        generalize f.streams[j].2=d at*
        generalize f.streams[j].1=nm at*
        have HOS:=hQ hos
        have HMC:=hQ (show m=it+1+1+j∧c=cn+(1+sf)+1+strTo f.streams j from ⟨hm,hcj⟩)
        clear hos hm hcj
        go_upto_region 18 with (first
         |(refine wpList_load_at rfl _ _ rfl b (off+j*2) [.string nm, .string d] _ rfl hcs Tryz.underlying122 rfl stream_sz ?_)
         |(refine wpList_store_row rfl _ _ _ rfl wr.heap.size _ #[.string ⟨#[]⟩, .string ⟨#[]⟩] #[.string nm, .string d] rfl rfl (heap_alloc_last _ _) 2 stream_sz rfl rfl (by simp[Value.oneCell']) ?_)
         |go_in)
        have hst:=box_store 122 wr #[.string ⟨#[]⟩, .string ⟨#[]⟩] [.string nm, .string d]
        generalize World.setRow _ _ _=w11 at hst ⊢
        obtain ⟨hboxS,hb11⟩:=hst
        have s1:=hboxS.cell 1 _ rfl
        have HPUT:=hQ ((HOS.out.step hB6 hb11).put 2 k j d.size hB6 hord.2.1 (by omega) (by omega) (by omega))
        have hdi:(d.size:Int)≤65536:=by omega
        clear hcs hb11 hboxS HOS
        go_wp2_with fail
        refine HPUT.out.mono ?_
        rintro e w12 ⟨rfl,hos12⟩
        have HOS12:=hQ hos12
        clear hos12 HPUT s1
        go_wp2
        go_roundw
        case rel=>exact ⟨j+1,m+1,c+(1+outside d.size),by omega,by go_num,⟨by have:=HMC.out.1;omega,by rw[HST.out];have:=HMC.out.2;omega⟩,HOS12.out⟩
        case measure=>simp[intOf];omega
       ·have hji:(f.streams.length:Int)≤j:=by omega
        have hjj:j=f.streams.length:=by omega
        have HR:=hQ (show m=it+(1+(if f.streams.length=0 then 0 else 1+f.streams.length))∧c=cn+(1+sf+(if f.streams.length=0 then 0 else 1+strTo f.streams f.streams.length)) from ⟨by rw[HIF2.out,hm,hjj];omega,by rw[HIF.out,hcj,hjj];omega⟩)
        have HF:=hQ (show OutR w B3 go g nc S6 C6 base es (k+1) wr from by
         unfold OutR
         rw[show itemsTo es (k+1)=m by rw[HIT.out, ←HR.out.1],show cntTo es (k+1)=c by rw[HCT.out, ←HR.out.2]]
         exact hos.1)
        clear hm hcj hos hjj HR
        go_wp2
        go_roundw
        case rel=>exact ⟨k+1,by omega,by go_num,HF.out⟩
        case measure=>simp[intOf];omega
  ·have hki:(es.length:Int)≤k:=by omega
   have hk':k=es.length:=by omega
   have HR:=hQ (show wr.cell? ⟨go,1,none⟩=some (.slice ia (itemsTo es es.length) ic)∧wr.cell? ⟨go,2,none⟩=some (.int .i64 (cntTo es es.length:Int))∧Below w.heap.size w wr from by
    rw[←hk']
    exact ⟨hos.box.cell 1 _ rfl,hos.box.cell 2 _ rfl,hbw⟩)
   clear hos hfB hbB hbw hk'
   go_wp2
   go_ret
   exact ⟨go,ia,ic,rfl,HR.out⟩
end Go.Proofs.YtbeccmkegckjjaaGreatDoor
end
