/- Law 43, UdfbuildSizes: a part of the proof. -/
import Derived.Deep.RegionHeld3
import Derived.Test.YtbeccmkegckjjaaGreatDoorQ19
section
namespace Go.Proofs.YtbeccmkegckjjaaGreatDoor
open Go.RowKit
set_option maxRecDepth 1000000
set_option maxHeartbeats 6400000
theorem KidsR.nothing(w:World)(base n:Nat):KidsR w base n (.slice none 0 0) []:=⟨[],rfl,⟨rfl, .inl ⟨rfl,rfl⟩⟩,fun j h=>by simp at h⟩
theorem step_append_blk{P:Program}{ops:Array Oper}{o:Oper}{a:Act}{w:World}{K:Act→World→Prop}{Q:Exit→Act→World→Prop}{E:Prop}(hgd:o.guard=none)(s x:Operand)(t:TypeId)
 (ho:o.op= .call {callee:= .builtin .append,args:= #[s,x],argTypes:= #[t,t]})
 (base:Nat) (e:TypeId) (i:TypeInfo) (z:Value) (size bytes:Nat) (ht:P.underlying t=some (.slice e)) (hi:P.info? e=some i) (hz:i.zero=some z)
 (hsize:i.size=size) (hby:i.bytes=bytes) (hzs:z.cells.size=size) (hsz:0<size)
 (v:Value) (n:Nat) (xs:List Value) (hs:a.eval s=v) (hown:w.ownsRow base e size v n xs)
 (ad:Addr) (m c:Nat) (news:List Value) (hx:a.eval x= .slice (some ad) m c) (hl:news.length=m*size) (hnews: ∀j u,news[j]? =some u→w.cell? (ad.add j)=some u) (h1: ∀u∈news,u.oneCell'=true)
 (h63:n+m≤maxLen) (hbytes:(n+m)*bytes≤140737488355328) (hbase:base≤w.heap.size)
 (h: ∀v' w',w'.ownsRow base e size v' (n+m) (xs++news)→w.grownBy w' v.ownBlock→(∀g,v'.ownBlock=some g→v.ownBlock=some g∨w.heap.size≤g)→K (a.put o.dst v') w'):
 if Region.wanted o (yielded ops a.tmps)=true then Oper.wp P o a w K Q else E:=by
 have hw:Region.wanted o (yielded ops a.tmps)=true:=by simp[Region.wanted,hgd]
 rw[if_pos hw]
 obtain ⟨v',w',hr,h2,h3,h4⟩:=run_append_blk (P:=P) w base t o.type e i z size bytes ht hi hz hsize hby hzs hsz v n xs hown ad m c news hl hnews h1 h63 hbytes hbase
 unfold Oper.wp execOp
 simp only[ho,resolve,invoke,builtin,Sem.run_bind,Sem.run_pure,Result.andThen_ok,List.map_toArray,List.map_cons,List.map_nil,hs,hx,hr]
 exact h v' w' h2 h3 h4
theorem Kp.far{C D:Nat→Prop}{w0 w w':World}(h:Kp C w0 w)(k:Kp D w w')(hD: ∀b,D b→C b∨w0.heap.size≤b):Kp C w0 w':=
 ⟨k.os.trans h.os,k.tape.trans h.tape,k.output.trans h.output,Nat.le_trans h.size k.size,fun b hb hn=>(k.block b (Nat.lt_of_lt_of_le hb h.size) fun hd=>(hD b hd).elim hn fun h2=>by omega).trans (h.block b hb hn)⟩
def KidsA(wr:World)(base n:Nat)(kv:Value)(kids:List (NT n)):Prop:=
 ∃kcs:List (List Value), ∃hl:kcs.length=kids.length,wr.ownsRow base 25 12 kv kids.length kcs.flatten∧ ∀j,(h:j<kids.length)→NodeV wr (fun b=>base≤b∧b<wr.heap.size∧kv.ownBlock≠some b) n kids[j] (kcs[j]'(by omega))
theorem KidsA.nothing(w:World)(base n:Nat):KidsA w base n (.slice none 0 0) []:=⟨[],rfl,⟨rfl, .inl ⟨rfl,rfl⟩⟩,fun j h=>by simp at h⟩
theorem KidsA.step{wr w':World}{base n:Nat}{kv:Value}{kids:List (NT n)}(h:KidsA wr base n kv kids)(hb:Below wr.heap.size wr w'):KidsA w' base n kv kids:=by
 obtain ⟨kcs,hl,h1,h2⟩:=h
 exact ⟨kcs,hl,own_below' h1 hb,fun j hj=>(h2 j hj).frame fun b hp=>⟨⟨hp.1,Nat.lt_of_lt_of_le hp.2.1 hb.size,hp.2.2⟩,fun _=>hb.cell hp.2.1⟩⟩
theorem KidsA.kp{D:Nat→Prop}{wr w':World}{base n:Nat}{kv:Value}{kids:List (NT n)}(h:KidsA wr base n kv kids)(hk:Kp D wr w')(hD: ∀b,D b→b<base):KidsA w' base n kv kids:=by
 obtain ⟨kcs,hl,h1,h2⟩:=h
 refine ⟨kcs,hl,⟨h1.1,?_⟩,fun j hj=>(h2 j hj).frame fun b hp=>⟨⟨hp.1,Nat.lt_of_lt_of_le hp.2.1 hk.size,hp.2.2⟩,fun o=>hk.cell hp.2.1 (fun hd=>by have:=hD b hd;have:=hp.1;omega) o⟩⟩
 rcases h1.2 with hn|⟨g,cap,cur,rfl,hb,hg,rest⟩
 ·exact .inl hn
 ·exact .inr ⟨g,cap,cur,rfl,hb,by rw[hk.block g (Array.getElem?_eq_some_iff.1 hg).1 fun hd=>by have:=hD g hd;omega];exact hg,rest⟩
theorem KidsA.rowV{wr:World}{base n:Nat}{kv:Value}{kids:List (NT n)}(h:KidsA wr base n kv kids): ∃kcs:List (List Value), ∃hl:kcs.length=kids.length,RowV wr (Fr base wr) kv 12 kcs∧ ∀j,(h:j<kids.length)→NodeV wr (Fr base wr) n kids[j] (kcs[j]'(by omega)):=by
 obtain ⟨kcs,hl,h1,h2⟩:=h
 have h3: ∀j,(h:j<kids.length)→NodeV wr (Fr base wr) n kids[j] (kcs[j]'(by omega)):=fun j hj=>(h2 j hj).frame fun b hp=>⟨⟨hp.1,hp.2.1⟩,fun _=>rfl⟩
 exact ⟨kcs,hl,RowV.of_own (KidsR.len hl h3) hl.symm h1,h3⟩
theorem KidsA.snoc{w w7 w1 w':World}{base n:Nat}{kv kv':Value}{kids:List (NT n)}{t:NT n}{vs:List Value}{kcs:List (List Value)}(hR: ∃hl:kcs.length=kids.length,w.ownsRow base 25 12 kv kids.length kcs.flatten∧ ∀j,(h:j<kids.length)→NodeV w (fun b=>base≤b∧b<w.heap.size∧kv.ownBlock≠some b) n kids[j] (kcs[j]'(by omega)))
 (hbase:base≤w.heap.size) (hb7:Below w.heap.size w w7) (ht:NodeV w7 (Fr w.heap.size w7) n t vs) (h01:Below w7.heap.size w7 w1) (ho:w'.ownsRow base 25 12 kv' (kids.length+1) (kcs.flatten++vs)) (hg:w1.grownBy w' kv.ownBlock)
 (hblk: ∀g,kv'.ownBlock=some g→kv.ownBlock=some g∨w1.heap.size≤g):KidsA w' base n kv' (kids++[t]):=by
 obtain ⟨hl,h1,h2⟩:=hR
 have hk1:Kp (fun b=>kv.ownBlock=some b) w7 w':=(Kp.of h01).trans (Kp.of_grown hg fun g hg=>hg)
 have hk:Kp (fun b=>kv.ownBlock=some b) w w':=(Kp.of hb7).trans hk1
 have hs7:=hb7.size
 have hs1:=h01.size
 have hs2:=hg.size
 refine ⟨kcs++[vs],by simp[hl],by rw[List.length_append,List.flatten_append];simpa using ho,fun j hj=>?_⟩
 rw[List.length_append] at hj
 by_cases hlt:j<kids.length
 ·rw[List.getElem_append_left hlt,List.getElem_append_left (by omega)]
  exact (h2 j hlt).frame fun b hp=>⟨⟨hp.1,by have:=hp.2.1;omega,fun e=>(hblk b e).elim (fun e2=>hp.2.2 e2) fun e2=>by have:=hp.2.1;omega⟩,fun o=>hk.cell hp.2.1 (fun e=>hp.2.2 e) o⟩
 ·have e:j=kids.length:=by simp at hj;omega
  subst e
  rw[List.getElem_append_right (Nat.le_refl _),List.getElem_append_right (by omega)]
  simp only[Nat.sub_self,hl,List.getElem_singleton]
  have hne: ∀b,w.heap.size≤b→kv.ownBlock≠some b:=fun b hb e=>by have:=(h1.lt b e).2;omega
  exact ht.frame fun b hp=>⟨⟨Nat.le_trans hbase hp.1,by have:=hp.2;omega,fun e=>(hblk b e).elim (fun e2=>hne b hp.1 e2) fun e2=>by have:=hp.2;omega⟩,fun o=>hk1.cell hp.2 (fun e=>hne b hp.1 e) o⟩
@[simp,go_sem] def ldX:Op:= .load 22 (.tmp 40)
theorem r_tree19: ∀(n:Nat) (t:NT n) (vs:List Value) (B:Nat) (w:World) (l:Nat),NodeV w (· < B) n t vs→B≤w.heap.size→ntOK n t l=true→ntCount n t≤64→ntBytes n t≤65536→1≤l→l+n≤1000→
 Calls Tryz.prog 124 #[.int .i64 3, .agg vs.toArray, .string (ntF n t).name, .int .i64 (l:Int)] w fun e w'=> ∃vs':List Value,e= .returned (.agg vs'.toArray)∧NodeV w' (Fr w.heap.size w') n (ntView n t) vs'∧Below w.heap.size w w'
 |0,_,_,_,_,_,h,_,_,_,_,_,_=>h.elim
 |n+1,(f,kids),vs,B,w,l,h,hB,hok,hc,hz,hl,hln=>by
  obtain ⟨i0,hi,hz0,hz1,hz2⟩:=info_parts info_node
  obtain ⟨ka,kc,a,c,rfl,hrow,hk⟩:=h.parts
  obtain ⟨-, -, -,z4, -⟩:=nf_bounds hz
  have hkl:=kids_len hc
  have hnl:=kidNames_len n kids
  obtain ⟨hok1,hok2⟩:=ntOK_parts hok
  obtain ⟨-, -, -,hso, -⟩:=oneOK_parts hok1
  rw[hnl] at hso
  have HKOK:=hQ (fun j (hj:j<kids.length)=>hok2 _ (List.getElem_mem hj))
  have HONE:=hQ (fun (W:World) (hW:Below w.heap.size w W)=>r_one19 f ka a kids.length kc c B W (Nat.le_trans hB hW.size) z4 (fun j hj=>by
   obtain ⟨b,off,e1,e2,e3,e4⟩:=hrow j hj
   exact ⟨b,off,e1,e2,(hW.cell (Nat.lt_of_lt_of_le e2 hB)).trans e3,(hW.cell (Nat.lt_of_lt_of_le e2 hB)).trans e4⟩))
  have HNMS:=hQ (fun (W:World) (hW:Below w.heap.size w W)=>r_names19 n kids ka kc B W (Nat.le_trans hB hW.size) hkl hso (fun j hj=>⟨ntOK_name (HKOK.out j hj) hl,by
   have h1:=name_le_bytes n kids[j]
   have h2:=Nat.le_trans (kid_bytes (f:=f) hj) hz
   omega⟩) (fun j hj=>by
   obtain ⟨b,off,cs,e1,e2,e3,e4⟩:=hk j hj
   exact ⟨b,off,cs,e1,e2,e3.below (hW.mono hB),fun i x hx=>(hW.cell (Nat.lt_of_lt_of_le e2 hB)).trans (e4 i x hx)⟩))
  have HSORT:=hQ (fun (vs:List Value) (W:World) (hN:NodeV W (· < W.heap.size) (n+1) (ntView (n+1) (f,kids)) vs)=>r_sort18 (n+1) (ntView (n+1) (f,kids)) vs W.heap.size W hN (Nat.le_refl _) (ntSorted_view (n+1) (f,kids) l hok) (Nat.le_trans (ntCount_view _ _) hc) (Nat.le_trans (ntBytes_view _ _) hz))
  have HC:=hQ hc
  have HZ:=hQ hz
  have HK:=hQ hk
  have IH:=hQ (r_tree19 n)
  have HB0:=hQ (Box.new (ty:=25) w (nfCells f (.slice ka kids.length kc) (.slice a f.streams.length c)))
  have hb1:=below_alloc1 w (.cells (nfCells f (.slice ka kids.length kc) (.slice a f.streams.length c)).toArray 25)
  have hll:(l:Int)≤1000:=by omega
  have hln':l+1+n≤1000:=by omega
  clear h hrow hk hok hok1 hok2 hso hc hz
  unfold nfCells at HB0 hb1 HONE ⊢
  dsimp only[ntF]
  go_enter Tryz.func124,Tryz.ntmps124
  go_upto_region 1 with (fail)
  have hbZ:=hb1.alloc hb1.size (.cells nodeZ 25)
  have HBA:=hQ (HB0.out.step (below_alloc1 _ (.cells nodeZ 25)))
  have HBR:=hQ (show Box 25 (w.heap.size+1) nodeZ.toList _ from by
   have h:=Box.new (ty:=25) (w.alloc (.cells #[.string f.name, .int .i64 f.kind, .string f.data, .string f.target, .int .i64 f.mode, .int .i64 f.uid, .int .i64 f.gid, .int .i64 f.time, .int .i64 f.weight, .int .i64 f.hidden, .slice ka kids.length kc, .slice a f.streams.length c] 25)) nodeZ.toList
   rw[alloc_size] at h
   exact h)
  unfold nodeZ at hbZ HBA HBR
  generalize (w.alloc _).alloc _=w2 at*
  have hboxA:Box 25 w.heap.size (nfCells f (.slice ka kids.length kc) (.slice a f.streams.length c)) w2:=HBA.out
  have hboxR:Box 25 (w.heap.size+1) nodeZ.toList w2:=HBR.out
  have hszR:=hboxR.lt
  clear HBA HBR HB0 hb1
  obtain ⟨k0,k1,k2,k3,k4,k5,k6,k7,k8,k9,k10,k11⟩:=hboxA.all
  go_wp2_with fail
  refine (HONE.out _ hbZ).mono ?_
  rintro e w3 ⟨sa,sc,rfl,hsv,hb3⟩
  clear k0 k1 k2 k3 k4 k5 k6 k7 k8 k9 k10 k11
  have hboxA3:=hboxA.step hb3
  have hboxR3:=hboxR.step hb3
  have hbw3:=hbZ.trans (hb3.mono hbZ.size)
  have hsz3:=hb3.size
  clear hboxA hboxR hbZ hb3
  go_upto_region 2 with (first
   |(refine wpList_store_row rfl _ _ _ rfl w3.heap.size _ nodeZ (nfCells (viewF f) (.slice none 0 0) (.slice sa f.streams.length sc)).toArray rfl rfl (heap_alloc_last _ _) 12 node_size rfl rfl (node_one _ _ _ _ _ _ _) ?_)
   |go_in)
  have hst4:=box_store 25 w3 nodeZ (nfCells (viewF f) (.slice none 0 0) (.slice sa f.streams.length sc))
  unfold nodeZ at hst4
  generalize World.setRow _ _ _=w4 at hst4 ⊢
  obtain ⟨hbox4,hb4⟩:=hst4
  have hboxA4:=hboxA3.step hb4
  have hboxR4:=hboxR3.step hb4
  have hbw4:=hbw3.trans (hb4.mono hbw3.size)
  have hsv4:RowV w4 (fun b=>w.heap.size≤b∧b<w3.heap.size) (.slice sa f.streams.length sc) 2 (strCells f.streams):=hsv.frame fun b hp=>⟨⟨by have:=hp.1;omega,hp.2⟩,fun _=>hb4.cell hp.2⟩
  clear hboxA3 hboxR3 hbw3 hsv hb4
  generalize w3.heap.size=G9 at*
  have c10:=hboxA4.cell 10 _ rfl
  go_wp2_with fail
  refine (HNMS.out _ hbw4).mono ?_
  rintro e w5 ⟨gN,rfl,hownN,hb5⟩
  have hbox5:=hbox4.step hb5
  have hboxA5:=hboxA4.step hb5
  have hboxR5:=hboxR4.step hb5
  have hbw5:=hbw4.trans (hb5.mono hbw4.size)
  have hsv5:RowV w5 (fun b=>w.heap.size≤b∧b<G9) (.slice sa f.streams.length sc) 2 (strCells f.streams):=hsv4.frame fun b hp=>⟨hp,fun _=>hb5.cell (Nat.lt_trans hp.2 hbox4.lt)⟩
  have hgN:=(own_cap hownN).2
  have hgG:G9<gN:=Nat.lt_of_lt_of_le hbox4.lt (hownN.lt gN rfl).1
  have HNC:=hQ (fun j (hj:j<kids.length)=>show w5.cell? ⟨gN,j,none⟩=some (.string (ntF n kids[j]).name) by
   rw[hownN.cellAt j (by omega),List.getElem?_map,List.getElem?_eq_getElem (by rw[hnl];exact hj)]
   simp[kidNames])
  have hG5:=hbox5.lt
  clear hownN hbox4 hboxA4 hboxR4 hbw4 hsv4 hb5 c10 HONE HNMS
  generalize hK0:w5.heap.size=K0 at*
  go_wp2_with fail
  go_loopw [12] (fun i wr=> ∃k:Nat,k≤kids.length∧i= .int .i64 k∧Kp (fun b=>b=G9) w5 wr∧Below w.heap.size w wr∧K0≤wr.heap.size∧ ∃ca cc,KidsA wr K0 n (.slice ca (shownKids n (kids.take k)).length cc) (shownKids n (kids.take k))∧
   Box 25 G9 (nfCells (viewF f) (.slice ca (shownKids n (kids.take k)).length cc) (.slice sa f.streams.length sc)) wr∧Box 25 w.heap.size (nfCells f (.slice ka kids.length kc) (.slice a f.streams.length c)) wr∧Box 25 (w.heap.size+1) nodeZ.toList wr) (fun i _=>kids.length-(intOf i).toNat)
  case atStart=>exact ⟨0,Nat.zero_le _,rfl,Kp.refl _ _,hbw5,Nat.le_of_eq hK0.symm,none,0,KidsA.nothing w5 K0 n,hbox5,hboxA5,hboxR5⟩
  case round=>
   obtain ⟨k,hk,rfl,hbr,hbw,hszr,ca,cc,hkr,hbox,hboxA,hboxR⟩:=hrel
   clear hbox5 hboxA5 hboxR5 hbw5
   have c10:=hboxA.cell 10 _ rfl
   by_cases hlt:k<kids.length
   ·have hi1:(k:Int)<kids.length:=by omega
    obtain ⟨b,off,cs,rfl,hbB,hnode0,hcell⟩:=HK.out k hlt
    have hnode:=hnode0.below (hbw.mono hB)
    obtain ⟨a',a2',l',c',l2',c2',rfl⟩:=hnode.cellsF
    have hbb:b<w.heap.size:=Nat.lt_of_lt_of_le hbB hB
    have hcell': ∀j x,(nfCells (ntF n kids[k]) (.slice a' l' c') (.slice a2' l2' c2'))[j]? =some x→wr.cell? ⟨b,off+k*12+j,none⟩=some x:=fun j x hx=>(hbw.cell hbb).trans (hcell j x hx)
    have HCALL:=hQ (fun (W:World) (hW:Below wr.heap.size wr W)=>IH.out kids[k] _ B W (l+1) (hnode.below (hW.mono (Nat.le_trans hB hbw.size))) (Nat.le_trans hB (Nat.le_trans hbw.size hW.size)) (HKOK.out k hlt) (Nat.le_trans (kid_count (f:=f) hlt) HC.out) (Nat.le_trans (kid_bytes (f:=f) hlt) HZ.out) (by omega) hln')
    have HSH:=hQ (fun W:World=>r_shown19 (ntF n kids[k]) a' a2' l' c' l2' c2' ((l:Int)+1) W (ntOK_hidden (HKOK.out k hlt)))
    have HSN:=hQ (shownKids_snoc n kids k hlt)
    have d0:wr.cell? ⟨gN,k,none⟩=some (.string (ntF n kids[k]).name):=(hbr.cell (by rw[hK0];exact hgN) (by omega) k).trans (HNC.out k hlt)
    clear hnode hnode0 hcell
    have hwl:=below_drewN (Below.refl wr.heap.size wr)
    generalize kids[k]=kd at*
    generalize hfk:ntF n kd=f' at*
    have HFK:=hQ hfk
    clear hfk
    unfold nfCells at HCALL HSH
    rw[show ((l+1:Nat):Int)=(l:Int)+1 by omega] at HCALL
    cases hsh:shownF f'
    ·rw[hsh,if_neg (by decide),List.append_nil] at HSN
     rw[hsh] at HSH
     go_wp2_with (first
      |(refine wpList_load_at rfl _ _ rfl b (off+k*12) (nfCells f' (.slice a' l' c') (.slice a2' l2' c2')) _ rfl hcell' Tryz.underlying25 rfl node_size ?_)
      |fail)
     refine (HSH.out _).mono ?_
     rintro e w6 ⟨rfl,hb6⟩
     have R1:=hQ (hbr.trans (Kp.of hb6))
     have R2:=hQ (hbw.trans (hb6.mono hbw.size))
     have R3:=hQ (Nat.le_trans hszr hb6.size)
     have R4:=hQ (hkr.step hb6)
     have R5:=hQ (hbox.step hb6)
     have R6:=hQ (hboxA.step hb6)
     have R7:=hQ (hboxR.step hb6)
     clear hbr hbw hszr hkr hbox hboxA hboxR hb6 hcell' d0 c10
     go_wp2
     go_roundw
     case rel=>exact ⟨k+1,by omega,by go_num,R1.out,R2.out,R3.out,ca,cc,by rw[HSN.out];exact R4.out,by rw[HSN.out];exact R5.out,R6.out,R7.out⟩
     case measure=>simp[intOf];omega
    ·rw[hsh,if_pos rfl] at HSN
     rw[hsh] at HSH
     go_wp2_with (first
      |(refine wpList_load_at rfl _ _ rfl b (off+k*12) (nfCells f' (.slice a' l' c') (.slice a2' l2' c2')) _ rfl hcell' Tryz.underlying25 rfl node_size ?_)
      |fail)
     refine (HSH.out _).mono ?_
     rintro e w6 ⟨rfl,hb6⟩
     have R1:=hQ (hbr.trans (Kp.of hb6))
     have R2:=hQ (hbw.trans (hb6.mono hbw.size))
     have R3:=hQ (Nat.le_trans hszr hb6.size)
     have R4:=hQ (hkr.step hb6)
     have R5:=hQ (hbox.step hb6)
     have R6:=hQ (hboxA.step hb6)
     have R7:=hQ (hboxR.step hb6)
     have hbd:=below_drew (Below.refl w6.heap.size w6)
     have HC6:=hQ (HCALL.out _ (hb6.trans (hbd.mono hb6.size)))
     rw[show (l:Int)+1=IntKind.i64.wrap ((l:Int)+1) by rw[IntKind.wrap_i64];omega] at HC6
     have hb7':=hbw.trans (hb6.mono hbw.size)
     have hcell6: ∀j x,(nfCells f' (.slice a' l' c') (.slice a2' l2' c2'))[j]? =some x→w6.cell? ⟨b,off+k*12+j,none⟩=some x:=fun j x hx=>(hb6.cell (Nat.lt_of_lt_of_le hbb hbw.size)).trans (hcell' j x hx)
     have d6:=(hb6.cell (World.block_lt_of_cell? _ _ d0)).trans d0
     have hml:(shownKids n (kids.take k)).length≤64:=by
      have h1:(shownKids n (kids.take k)).length≤(kids.take k).length:=by unfold shownKids;rw[List.length_map];exact List.length_filter_le _ _
      rw[List.length_take] at h1;omega
     have hgs:=R5.out.lt
     clear hbr hbw hszr hkr hbox hboxA hboxR hb6 hcell' d0 c10 HCALL hb7' HSH
     generalize hsk:shownKids n (kids.take k)=sk at*
     have HSK:=hQ hsk
     clear hsk
     obtain ⟨kcs,hR⟩:=R4.out
     have HR:=hQ hR
     have HOWN:=hQ (hR.elim fun _ h=>h.1)
     have k0:=hcell6 0 _ rfl
     have k1:=hcell6 1 _ rfl
     have k2:=hcell6 2 _ rfl
     have k3:=hcell6 3 _ rfl
     have k4:=hcell6 4 _ rfl
     have k5:=hcell6 5 _ rfl
     have k6:=hcell6 6 _ rfl
     have k7:=hcell6 7 _ rfl
     have k8:=hcell6 8 _ rfl
     have k9:=hcell6 9 _ rfl
     have k10:=hcell6 10 _ rfl
     have k11:=hcell6 11 _ rfl
     rw[Nat.add_zero] at k0
     have q10:=R5.out.cell 10 _ rfl
     have c10:=R6.out.cell 10 _ rfl
     have hbK:b<K0∧b≠G9:=by omega
     have hAK:w.heap.size<K0∧w.heap.size≠G9:=by omega
     have hgK:gN<K0∧gN≠G9:=by omega
     have hGK: ∀g,K0≤g→some G9≠some g:=fun g h e=>by injection e;omega
     have MKS:=hQ (show ∀W:World,Kp (fun b=>K0≤b∨b=G9) w6 W→(W.cell? ⟨b,off+k*12,none⟩=some (.string f'.name)∧W.cell? ⟨b,off+k*12+1,none⟩=some (.int .i64 f'.kind)∧W.cell? ⟨b,off+k*12+2,none⟩=some (.string f'.data)∧W.cell? ⟨b,off+k*12+3,none⟩=some (.string f'.target)∧
      W.cell? ⟨b,off+k*12+4,none⟩=some (.int .i64 f'.mode)∧W.cell? ⟨b,off+k*12+5,none⟩=some (.int .i64 f'.uid)∧W.cell? ⟨b,off+k*12+6,none⟩=some (.int .i64 f'.gid)∧W.cell? ⟨b,off+k*12+7,none⟩=some (.int .i64 f'.time)∧W.cell? ⟨b,off+k*12+8,none⟩=some (.int .i64 f'.weight)∧
      W.cell? ⟨b,off+k*12+9,none⟩=some (.int .i64 f'.hidden)∧W.cell? ⟨b,off+k*12+10,none⟩=some (.slice a' l' c')∧W.cell? ⟨b,off+k*12+11,none⟩=some (.slice a2' l2' c2')∧W.cell? ⟨w.heap.size,10,none⟩=some (.slice (some ⟨b,off,none⟩) kids.length kc)∧W.cell? ⟨gN,k,none⟩=some (.string f'.name)) from fun W hW=>by
      have hb1: ∀o x,w6.cell? ⟨b,o,none⟩=some x→W.cell? ⟨b,o,none⟩=some x:=fun o x h=>(hW.cell (World.block_lt_of_cell? _ _ h) (fun hc=>hc.elim (fun h1=>absurd h1 (Nat.not_le.2 hbK.1)) fun h2=>hbK.2 h2) o).trans h
      exact ⟨hb1 _ _ k0,hb1 _ _ k1,hb1 _ _ k2,hb1 _ _ k3,hb1 _ _ k4,hb1 _ _ k5,hb1 _ _ k6,hb1 _ _ k7,hb1 _ _ k8,hb1 _ _ k9,hb1 _ _ k10,hb1 _ _ k11,
       (hW.cell (World.block_lt_of_cell? _ _ c10) (fun hc=>hc.elim (fun h1=>absurd h1 (Nat.not_le.2 hAK.1)) fun h2=>hAK.2 h2) 10).trans c10,(hW.cell (World.block_lt_of_cell? _ _ d6) (fun hc=>hc.elim (fun h1=>absurd h1 (Nat.not_le.2 hgK.1)) fun h2=>hgK.2 h2) k).trans d6⟩)
     have FR6:=hQ (Kp.of (C:=fun b=>K0≤b∨b=G9) hbd)
     have HGK:=hQ hGK
     have HWK:=hQ (show w.heap.size≤K0∧w.heap.size≤G9∧G9<K0 by omega)
     have HHK:=hQ hK0
     clear hcell6 hR k0 k1 k2 k3 k4 k5 k6 k7 k8 k9 k10 k11 c10 d6 hbK hAK hgK hGK hbd
     go_upto_region 7 with (fail)
     rw[show (Op.load 22 (.tmp 40))=ldX from rfl]
     go_region_held3 (fun W=>W.cell? ⟨b,off+k*12,none⟩=some (.string f'.name)∧W.cell? ⟨b,off+k*12+1,none⟩=some (.int .i64 f'.kind)∧W.cell? ⟨b,off+k*12+2,none⟩=some (.string f'.data)∧W.cell? ⟨b,off+k*12+3,none⟩=some (.string f'.target)∧
      W.cell? ⟨b,off+k*12+4,none⟩=some (.int .i64 f'.mode)∧W.cell? ⟨b,off+k*12+5,none⟩=some (.int .i64 f'.uid)∧W.cell? ⟨b,off+k*12+6,none⟩=some (.int .i64 f'.gid)∧W.cell? ⟨b,off+k*12+7,none⟩=some (.int .i64 f'.time)∧W.cell? ⟨b,off+k*12+8,none⟩=some (.int .i64 f'.weight)∧
      W.cell? ⟨b,off+k*12+9,none⟩=some (.int .i64 f'.hidden)∧W.cell? ⟨b,off+k*12+10,none⟩=some (.slice a' l' c')∧W.cell? ⟨b,off+k*12+11,none⟩=some (.slice a2' l2' c2')∧W.cell? ⟨w.heap.size,10,none⟩=some (.slice (some ⟨b,off,none⟩) kids.length kc)∧W.cell? ⟨gN,k,none⟩=some (.string f'.name))
      (first|(with_reducible exact MKS.out _ FR6.out)|(with_reducible exact MKS.out _ FR7.out)|(with_reducible exact MKS.out _ (FR7.out.trans (Kp.of (below_alloc1 _ _))))|(with_reducible exact MKS.out _ FR8.out)|(with_reducible exact MKS.out _ (FR8.out.trans ((Kp.setIn _ G9 10 _).wk fun b hb=>Or.inr hb))))
      (first
      |(refine step_append_blk rfl _ _ 22 rfl K0 25 i0 (.agg nodeZ) 12 152 Tryz.underlying22 hi hz0 hz1 hz2 rfl (by decide) (.slice ca sk.length cc) sk.length kcs.flatten rfl ?_ ⟨w7.heap.size,0,none⟩ 1 1 (nfCells f7 (.slice b1 d1 e1) (.slice b2 d2 e2)) rfl rfl ?_ ?_ ?_ ?_ ?_ ?_
        ·exact own_below' HOWN.out (HB7.out.trans ((below_alloc1 w7 _).mono HB7.out.size))
        ·exact World.news_of_block (fr:=(0,0)) (heap_alloc_last _ _)
        ·exact nf_cell _ _ _ _ _ _ _
        ·unfold maxLen;omega
        ·omega
        ·exact Nat.le_trans HSZ7.out (below_alloc1 w7 _).size
        intro v8 w8 hown8 hgrow8 hblk8
        obtain ⟨sa8,sc8,rfl⟩:=own_slice hown8
        have hbox8:=(HBX7.out.step (below_alloc1 w7 (.cells (nfCells f7 (.slice b1 d1 e1) (.slice b2 d2 e2)).toArray 25))).grown hgrow8 (fun e=>by
         rcases hq:(Value.slice ca sk.length cc).ownBlock with _|gq
         ·rw[hq] at e;cases e
         ·exact HGK.out gq (HOWN.out.lt gq hq).1 (e.trans hq))
        have FR8:=hQ ((FR7.out.trans (Kp.of (below_alloc1 w7 (.cells (nfCells f7 (.slice b1 d1 e1) (.slice b2 d2 e2)).toArray 25)))).trans (Kp.of_grown hgrow8 fun gq hq=>Or.inl (HOWN.out.lt gq hq).1))
        have HO8:=hQ hown8
        have HBLK8:=hQ (show ∀g,(Value.slice sa8 (sk.length+1) sc8).ownBlock=some g→(Value.slice ca sk.length cc).ownBlock=some g∨(w7.alloc (.cells (nfCells f7 (.slice b1 d1 e1) (.slice b2 d2 e2)).toArray 25)).heap.size≤g from fun g hg=>by have:=hblk8 g hg;rw[alloc_size];first|exact this|(rw[alloc_size] at this;exact this))
        have HG8:=hQ hgrow8
        have HX8:=hQ hbox8
        have q8:=hbox8.cell 10 _ rfl
        have f8:=hbox8.frozen 10
        clear hown8 hgrow8 hbox8 hblk8)
      |(go_at_call 124;refine HC6.out.mono ?_;rintro e w7 ⟨vs7,rfl,hn7,hb7⟩;obtain ⟨b1,b2,d1,e1,d2,e2,rfl⟩:=hn7.cellsF;have HN7:=hQ hn7;have HB7:=hQ (show Below w6.heap.size w6 w7 from (below_drew (Below.refl w6.heap.size w6)).trans hb7);have hbox7:=R5.out.step HB7.out;have HBX7:=hQ hbox7;have q7:=hbox7.cell 10 _ rfl;have q7a:=fun o=>(hbox7.step (below_alloc1 w7 o)).cell 10 _ rfl;have HSZ7:=hQ (Nat.le_trans R3.out hb7.size);have FR7:=hQ (FR6.out.trans (Kp.of hb7));generalize ntF n (ntView n kd)=f7 at *;clear hn7 hb7 hbox7;unfold nfCells))
     all_goals
      have FR9:=FR8.out.trans ((Kp.setIn w8 G9 10 (.slice sa8 (sk.length+1) sc8)).wk fun b hb=>Or.inr hb)
      have Z1:=hQ (R1.out.far FR9 fun b hb=>hb.elim (fun h=>Or.inr (by rw[HHK.out];exact h)) Or.inl)
      have Z2:=hQ (R2.out.trans (FR9.below (B:=w.heap.size) (fun b hb=>hb.elim (fun h=>Nat.le_trans HWK.out.1 h) fun h=>by have:=HWK.out.2.1;omega) R2.out.size))
      have Z3:=hQ (Nat.le_trans R3.out FR9.size)
      have Z4:=hQ ((KidsA.snoc HR.out R3.out HB7.out HN7.out (below_alloc1 w7 _) HO8.out HG8.out HBLK8.out).kp (Kp.setIn w8 G9 10 (.slice sa8 (sk.length+1) sc8)) (fun b hb=>by have:=HWK.out.2.2;omega))
      have Z5:=hQ (HX8.out.setCell 10 (.slice sa8 (sk.length+1) sc8))
      have Z6:=hQ (R6.out.kp FR9 (fun hd=>by have:=HWK.out;rcases hd with hd|hd <;> omega))
      have Z7:=hQ (R7.out.kp FR9 (fun hd=>by have:=HWK.out;rcases hd with hd|hd <;> omega))
      clear q8 f8 FR9
      go_wp2
      go_roundw
      case rel=>
       refine ⟨k+1,by omega,by go_num,Z1.out,Z2.out,Z3.out,sa8,sc8,?_,?_,Z6.out,Z7.out⟩
       ·rw[HSN.out,List.length_append];exact Z4.out
       ·rw[HSN.out,List.length_append];exact Z5.out
      case measure=>simp[intOf];omega
   ·have hi1:(kids.length:Int)≤k:=by omega
    have hk':k=kids.length:=by omega
    rw[hk',List.take_length] at hkr hbox
    obtain ⟨kcs,hkl9,hrv,hnod⟩:=hkr.rowV
    have hsv9:RowV wr (· < wr.heap.size) (.slice sa f.streams.length sc) 2 (strCells f.streams):=hsv5.frame fun b hp=>⟨Nat.lt_trans hp.2 hbox.lt,fun o=>hbr.cell (by rw[hK0];exact Nat.lt_trans hp.2 hG5) (fun e=>by have:=hp.2;omega) o⟩
    have hN9:NodeV wr (· < wr.heap.size) (n+1) (ntView (n+1) (f,kids)) (nfCells (viewF f) (.slice ca (shownKids n kids).length cc) (.slice sa f.streams.length sc)):=⟨_,_,kcs,rfl,hsv9,hrv.frame fun b hp=>⟨hp.2,fun _=>rfl⟩,hkl9,fun j hj hj'=>(hnod j hj).fr_lt⟩
    have HCS:=hQ (HSORT.out _ wr hN9)
    have HBW:=hQ hbw
    have hbL:=hbox
    unfold nfCells at hbL HCS
    clear hkr hrv hnod hsv9 hN9 hsv5 HNC hbr hkl9 hk' hboxA
    go_wp2_with (first
     |(refine wpList_load_row rfl _ _ rfl G9 _ _ _ rfl hbL Tryz.underlying25 rfl 12 node_size rfl ?_)
     |fail)
    refine HCS.out.mono ?_
    rintro e w10 ⟨vs',rfl,hn10,hb10⟩
    have hboxR10:=hboxR.step hb10
    have hlt:=hboxR.lt
    have hbw10:=HBW.out.trans (hb10.mono HBW.out.size)
    obtain ⟨b1,b2,d1,e1,d2,e2,rfl⟩:=hn10.cellsF
    have HN10:=hQ hn10
    have HS10:=hQ HBW.out.size
    clear hn10 hbL hbox
    generalize ntF (n+1) (ntView (n+1) (f,kids))=f10 at*
    have hboxF:=hboxR10.setRow (nfCells f10 (.slice b1 d1 e1) (.slice b2 d2 e2))
    have hkF:=Kp.setRow w10 (w.heap.size+1) (nfCells f10 (.slice b1 d1 e1) (.slice b2 d2 e2)).toArray
    go_wp2_with (first
     |(refine wpList_store_row rfl _ _ _ rfl (w.heap.size+1) _ _ (nfCells f10 (.slice b1 d1 e1) (.slice b2 d2 e2)).toArray rfl rfl hboxR10 12 node_size rfl rfl (node_one _ _ _ _ _ _ _) ?_)
     |go_in)
    refine bodyPost_ret (results_cell_row Tryz.results124 _ _ (w.heap.size+1) _ _ _ _ rfl hboxF Tryz.underlying25 rfl node_size) rfl ⟨_,rfl,?_,hbw10.trans (hkF.below (fun b hb=>by omega) hbw10.size)⟩
    exact (HN10.out.fr_kp hkF (fun b hb=>by omega)).fr_base HS10.out
end Go.Proofs.YtbeccmkegckjjaaGreatDoor
end
