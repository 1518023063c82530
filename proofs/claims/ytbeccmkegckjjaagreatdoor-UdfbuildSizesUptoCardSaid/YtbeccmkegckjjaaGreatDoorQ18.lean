/- Law 43, UdfbuildSizes: a part of the proof. -/
import Derived.Test.YtbeccmkegckjjaaGreatDoorQ17
section
namespace Go.Proofs.YtbeccmkegckjjaaGreatDoor
open Go.RowKit
set_option maxRecDepth 1000000
set_option maxHeartbeats 6400000
def ntSorted:(n:Nat)→NT n→Bool
 |0,_=>true
 |n+1,t=>sortedTo (kidNames n t.2) t.2.length&&(sortedTo (t.1.streams.map (·.1)) t.1.streams.length&&t.2.all (ntSorted n))
theorem info_node:(Tryz.prog.info? 25).map (fun i=>(i.zero,i.size,i.bytes))=some (some (.agg nodeZ),12,152):=by kernel_rfl
def KidsR(wr:World)(base n:Nat)(kv:Value)(kids:List (NT n)):Prop:=
 ∃kcs:List (List Value), ∃hl:kcs.length=kids.length,wr.ownsRow base 25 12 kv kids.length kcs.flatten∧ ∀j,(h:j<kids.length)→NodeV wr (Fr base wr) n kids[j] (kcs[j]'(by omega))
theorem KidsR.nil(w:World)(n:Nat):KidsR (w.alloc (.cells #[] 25)) w.heap.size n (.slice (some ⟨w.heap.size,0,none⟩) 0 0) []:=
 ⟨[],rfl,World.ownsRow_made w #[] 0 (Nat.le_refl _) (Nat.zero_le _) rfl,fun j h=>by simp at h⟩
theorem KidsR.step{wr w':World}{base n:Nat}{kv:Value}{kids:List (NT n)}(h:KidsR wr base n kv kids)(hb:Below wr.heap.size wr w'):KidsR w' base n kv kids:=by
 obtain ⟨kcs,hl,h1,h2⟩:=h
 exact ⟨kcs,hl,own_below' h1 hb,fun j hj=>(h2 j hj).fr_step hb⟩
theorem KidsR.len{wr:World}{base n:Nat}{kids:List (NT n)}{kcs:List (List Value)}(hl:kcs.length=kids.length)(h: ∀j,(h:j<kids.length)→NodeV wr (Fr base wr) n kids[j] (kcs[j]'(by omega))): ∀c∈kcs,c.length=12:=fun c hc=>by
 obtain ⟨j,hj,rfl⟩:=List.mem_iff_getElem.1 hc
 exact (h j (by omega)).len
theorem KidsR.rowV{wr:World}{base n:Nat}{kv:Value}{kids:List (NT n)}(h:KidsR wr base n kv kids): ∃kcs:List (List Value), ∃hl:kcs.length=kids.length,RowV wr (Fr base wr) kv 12 kcs∧ ∀j,(h:j<kids.length)→NodeV wr (Fr base wr) n kids[j] (kcs[j]'(by omega)):=by
 obtain ⟨kcs,hl,h1,h2⟩:=h
 exact ⟨kcs,hl,RowV.of_own (KidsR.len hl h2) hl.symm h1,h2⟩
theorem KidsR.snoc{w w':World}{base n:Nat}{kv:Value}{kids:List (NT n)}{t:NT n}{vs:List Value}{kcs:List (List Value)}(hl:kcs.length=kids.length)(hb:Below w.heap.size w w')(h2: ∀j,(h:j<kids.length)→NodeV w (Fr base w) n kids[j] (kcs[j]'(by omega)))
 (ht:NodeV w (Fr base w) n t vs) (ho:w'.ownsRow base 25 12 kv (kids.length+1) (kcs.flatten++vs)):KidsR w' base n kv (kids++[t]):=by
 refine ⟨kcs++[vs],by simp[hl],by rw[List.length_append,List.flatten_append];simpa using ho,fun j hj=>?_⟩
 rw[List.length_append] at hj
 by_cases hlt:j<kids.length
 ·rw[List.getElem_append_left hlt,List.getElem_append_left (by omega)]
  exact (h2 j hlt).fr_step hb
 ·have e:j=kids.length:=by simp at hj;omega
  subst e
  rw[List.getElem_append_right (Nat.le_refl _),List.getElem_append_right (by omega)]
  simp only[Nat.sub_self,hl,List.getElem_singleton]
  exact ht.fr_step hb
theorem KidsR.name{wr:World}{base n g cap:Nat}{kids:List (NT n)}(h:KidsR wr base n (.slice (some ⟨g,0,none⟩) kids.length cap) kids)(j:Nat)(hj:j<kids.length):wr.cell? ⟨g,j*12,none⟩=some (.string (ntF n kids[j]).name):=by
 obtain ⟨kcs,hl,h1,h2⟩:=h
 have h3:=h1.cellAt (j*12+0) (by omega)
 rw[flat_at 12 kcs (KidsR.len hl h2) j 0 (by omega) (by omega)] at h3
 obtain ⟨_,_,_,_,_,_,e⟩:=(h2 j hj).cellsF
 rw[e] at h3
 exact h3
theorem nf_cell(f:NF)(a a2:Option Addr)(l c l2 c2:Nat): ∀u∈nfCells f (.slice a l c) (.slice a2 l2 c2),u.oneCell'=true:=fun u hu=>by
 have h:=node_one f a a2 l c l2 c2
 rw[List.all_toArray] at h
 exact List.all_eq_true.1 h u hu
theorem r_sort18: ∀(n:Nat) (t:NT n) (vs:List Value) (B:Nat) (w:World),NodeV w (· < B) n t vs→B≤w.heap.size→ntSorted n t=true→ntCount n t≤64→ntBytes n t≤65536→
 Calls Tryz.prog 222 #[.agg vs.toArray] w fun e w'=> ∃vs':List Value,e= .returned (.agg vs'.toArray)∧NodeV w' (Fr w.heap.size w') n t vs'∧Below w.heap.size w w'
 |0,_,_,_,_,h,_,_,_,_=>h.elim
 |n+1,(f,kids),vs,B,w,h,hB,hso,hc,hz=>by
  obtain ⟨i0,hi,hz0,hz1,hz2⟩:=info_parts info_node
  obtain ⟨i1,hi',hy0,hy1,hy2⟩:=info_parts info_stream
  obtain ⟨ka,kc,a,c,rfl,hrow,hk⟩:=h.parts
  obtain ⟨-, -, -,z4, -⟩:=nf_bounds hz
  have hkl:=kids_len hc
  have hnl:=kidNames_len n kids
  have hso':(sortedTo (kidNames n kids) kids.length&&(sortedTo (f.streams.map (·.1)) f.streams.length&&kids.all (ntSorted n)))=true:=hso
  simp only[Bool.and_eq_true] at hso'
  obtain ⟨hs1,hs2,hs3⟩:=hso'
  have HS3:=hQ (List.all_eq_true.1 hs3)
  have HLT:=hQ (fun m (hm:m+1<kids.length)=>show ltB (ntF n (kids[m]'(by omega))).name.data.toList (ntF n kids[m+1]).name.data.toList=true by
   have h:=sortedTo_adj (kidNames n kids) m (by rw[hnl];exact hs1) (by omega)
   simpa[kidNames] using h)
  have HLS:=hQ (fun m (hm:m+1<f.streams.length)=>show ltB (f.streams[m]'(by omega)).1.data.toList f.streams[m+1].1.data.toList=true by
   have h:=sortedTo_adj (f.streams.map (·.1)) m (by rw[List.length_map];exact hs2) (by rw[List.length_map];exact hm)
   simpa using h)
  have HC:=hQ hc
  have HZ:=hQ hz
  have HK:=hQ hk
  have HROW:=hQ hrow
  have IH:=hQ (r_sort18 n)
  have HB0:=hQ (Box.new (ty:=25) w (nfCells f (.slice ka kids.length kc) (.slice a f.streams.length c)))
  have hb1:=below_alloc1 w (.cells (nfCells f (.slice ka kids.length kc) (.slice a f.streams.length c)).toArray 25)
  clear h hrow hk hso hs1 hs2 hs3 hc hz
  unfold nfCells at HB0 hb1 ⊢
  go_enter Tryz.func222,Tryz.ntmps222
  go_upto_region 1 with (fail)
  have hbZ:=hb1.alloc hb1.size (.cells nodeZ 25)
  have HBA:=hQ (HB0.out.step (below_alloc1 _ (.cells nodeZ 25)))
  have HBR:=hQ (show Box 25 (w.heap.size+1) nodeZ.toList _ from by
   have h:=Box.new (ty:=25) (w.alloc (.cells #[.string f.name, .int .i64 f.kind, .string f.data, .string f.target, .int .i64 f.mode, .int .i64 f.uid, .int .i64 f.gid, .int .i64 f.time, .int .i64 f.weight, .int .i64 f.hidden, .slice ka kids.length kc, .slice a f.streams.length c] 25)) nodeZ.toList
   rw[alloc_size] at h
   exact h)
  unfold nodeZ at hbZ HBA HBR
  generalize (w.alloc _).alloc _=w2 at*
  have hboxA:Box 25 w.heap.size (nfCells f (.slice ka kids.length kc) (.slice a f.streams.length c)) w2:=HBA.out
  have hboxR:Box 25 (w.heap.size+1) nodeZ.toList w2:=HBR.out
  have HK0:=hQ (KidsR.nil w2 n)
  have hb3:=hbZ.alloc hbZ.size (.cells #[] 25)
  have hboxA3:=hboxA.step (below_alloc1 w2 (.cells #[] 25))
  have hboxR3:=hboxR.step (below_alloc1 w2 (.cells #[] 25))
  have hszR:=hboxR.lt
  go_upto_region 2 with (fail)
  generalize w2.alloc _=w3 at*
  clear HBA HBR HB0 hboxA hboxR hb1
  go_wp2_with fail
  go_loopw [3,4] (fun kv i wr=> ∃k g cap:Nat,k≤kids.length∧i= .int .i64 k∧kv= .slice (some ⟨g,0,none⟩) k cap∧KidsR wr w2.heap.size n kv (kids.take k)∧Below w.heap.size w wr∧Box 25 w.heap.size (nfCells f (.slice ka kids.length kc) (.slice a f.streams.length c)) wr∧Box 25 (w.heap.size+1) nodeZ.toList wr∧w2.heap.size≤wr.heap.size) (fun _ i _=>kids.length-(intOf i).toNat)
  case atStart=>exact ⟨0,w2.heap.size,0,Nat.zero_le _,rfl,rfl,HK0.out,hb3,hboxA3,hboxR3,by have:=HK0.out.choose_spec.choose_spec.1;exact Nat.le_of_lt (own_cap this).2⟩
  case round=>
   obtain ⟨k,g,cap,hk,rfl,rfl,hkr,hbw,hbox,hboxR,hszw⟩:=hrel
   clear HK0 hboxA3 hboxR3 hb3 hbZ
   have c10:=hbox.cell 10 _ rfl
   by_cases hlt:k<kids.length
   ·skip
    have hi1:(k:Int)<kids.length:=by omega
    obtain ⟨b,off,cs,rfl,hbB,hnode0,hcell⟩:=HK.out k hlt
    have hnode:=hnode0.below (hbw.mono hB)
    obtain ⟨a',a2',l',c',l2',c2',rfl⟩:=hnode.cellsF
    have hbb:b<w.heap.size:=Nat.lt_of_lt_of_le hbB hB
    have hcell': ∀j x,(nfCells (ntF n kids[k]) (.slice a' l' c') (.slice a2' l2' c2'))[j]? =some x→wr.cell? ⟨b,off+k*12+j,none⟩=some x:=fun j x hx=>(hbw.cell hbb).trans (hcell j x hx)
    have HCALL:=hQ (IH.out kids[k] _ B wr hnode (Nat.le_trans hB hbw.size) (HS3.out _ (List.getElem_mem hlt)) (Nat.le_trans (kid_count (f:=f) hlt) HC.out) (Nat.le_trans (kid_bytes (f:=f) hlt) HZ.out))
    have HTK:=hQ (List.take_succ_eq_append_getElem hlt)
    have HTL:=hQ (show (kids.take k).length=k by rw[List.length_take];omega)
    have HLTk:=hQ (fun m (hm:m+1=k)=>show ltB (ntF n (kids[m]'(by omega))).name.data.toList (ntF n kids[k]).name.data.toList=true by
     subst hm;exact HLT.out m hlt)
    have HNAME:=hQ (fun m (hm:m+1=k)=>show wr.cell? ⟨g,m*12,none⟩=some (.string (ntF n (kids[m]'(by omega))).name) by
     have h:KidsR wr w2.heap.size n (.slice (some ⟨g,0,none⟩) (kids.take k).length cap) (kids.take k):=by rw[HTL.out];exact hkr
     have h2:=KidsR.name h m (by have:=HTL.out;omega)
     rw[List.getElem_take] at h2;exact h2)
    clear hnode hnode0 hcell
    generalize kids[k]=kd at*
    generalize hfk:ntF n kd=f' at*
    have HFK:=hQ hfk
    clear hfk
    unfold nfCells at HCALL
    go_wp2_with (first
     |(refine wpList_load_at rfl _ _ rfl b (off+k*12) (nfCells f' (.slice a' l' c') (.slice a2' l2' c2')) _ rfl hcell' Tryz.underlying25 rfl node_size ?_)
     |fail)
    refine HCALL.out.mono ?_
    rintro e w5 ⟨vs',rfl,hnode5,hb5⟩
    obtain ⟨b1,b2,d1,e1,d2,e2,rfl⟩:=hnode5.cellsF
    rw[HFK.out] at hnode5 ⊢
    have HN5:=hQ (hnode5.fr_base hszw)
    have hkr5:=hkr.step hb5
    have hbw5:=hbw.trans (hb5.mono hbw.size)
    have hbox5:=hbox.step hb5
    have hboxR5:=hboxR.step hb5
    have hsz5:=Nat.le_trans hszw hb5.size
    have HN5b:=hQ (fun m (hm:m+1=k)=>(hb5.cell (World.block_lt_of_cell? _ _ (HNAME.out m hm))).trans (HNAME.out m hm))
    clear hnode5 hcell' HCALL hkr hbox hboxR hbw c10 hb5 HNAME hszw
    go_upto_region 6 with (first
     |(refine wpList_store_row rfl _ _ _ rfl w5.heap.size _ nodeZ (nfCells f' (.slice b1 d1 e1) (.slice b2 d2 e2)).toArray rfl rfl (heap_alloc_last _ _) 12 node_size rfl rfl (node_one _ _ _ _ _ _ _) ?_)
     |go_in)
    have hst6:=box_store 25 w5 nodeZ (nfCells f' (.slice b1 d1 e1) (.slice b2 d2 e2))
    unfold nodeZ at hst6
    generalize World.setRow _ _ _=w6 at hst6 ⊢
    obtain ⟨hbox6,hb6⟩:=hst6
    have hkr6:=hkr5.step hb6
    have hn6:=HN5.out.fr_step hb6
    have hbw6:=hbw5.trans (hb6.mono hbw5.size)
    have hboxA6:=hbox5.step hb6
    have hboxR6:=hboxR5.step hb6
    have hsz6:=Nat.le_trans hsz5 hb6.size
    have HN6b:=hQ (fun m (hm:m+1=k)=>(hb6.cell (World.block_lt_of_cell? _ _ (HN5b.out m hm))).trans (HN5b.out m hm))
    obtain ⟨k0,k1,k2,k3,k4,k5,k6,k7,k8,k9,k10,k11⟩:=hbox6.all
    obtain ⟨kcs,hkcs,hown,hnod⟩:=hkr6
    rw[HTL.out] at hown
    have HCC:=hQ (own_cap hown).1
    have HKC:=hQ hkcs
    have HSZ6:=hQ hsz6
    have HXA:=hQ hboxA6
    have HXR:=hQ hboxR6
    have HOW:=hQ hown
    have HNOD:=hQ hnod
    have HN6:=hQ hn6
    have HBW:=hQ hbw6
    clear hkr5 hb6 hbw5 hbox5 hboxR5 hbox6 hown hnod hn6 hbw6 HN5 HN5b hsz5 hsz6 hboxA6 hboxR6
    go_wp2_with fail
    refine wp_loop_rounds 1 ?_
    rw[rounds_succ]
    cases k with
    |zero=>
     have hcc:=HCC.out
     have hcap:(0:Int)≤cap:=by omega
     clear hcc
     go_wp2_with fail
     go_quiet (fail)
     go_wp2_with fail
     go_region_law (
      refine step_append_full rfl _ _ 22 rfl w2.heap.size 25 i0 (.agg nodeZ) 12 152 Tryz.underlying22 hi hz0 hz1 hz2 rfl ⟨g,0,none⟩ (0) kcs.flatten rfl ?_ ?_ ⟨w6.heap.size,0,none⟩ 1 1 (nfCells f' (.slice b1 d1 e1) (.slice b2 d2 e2)) rfl rfl ?_ ?_ ?_ ?_ ?_ ?_
      ·exact HOW.out.1
      ·exact (own_below' HOW.out (below_drewAlloc _ _ _)).cells rfl
      ·exact World.news_of_block (fr:=(0,0)) (heap_alloc_last _ _)
      ·omega
      ·unfold maxLen;omega
      ·omega
      ·exact Nat.le_trans (by first|exact HSZ6.out|exact HSZS.out) (below_drewAlloc _ _ _).size
      intro cap2 w7 hown7 hgrow7)
     rw[drewAlloc_size] at hown7
     have hb7:Below w6.heap.size w6 w7:=(below_drewAlloc w6 (nq+1) _).grown hgrow7 (below_drewAlloc _ _ _).size (fun j hj=>by cases hj)
     go_wp2
     go_roundw
     case rel=>
      refine ⟨0+1,_,cap2,by omega,by go_num,rfl,?_,HBW.out.trans (hb7.mono HBW.out.size),HXA.out.step hb7,HXR.out.step hb7,Nat.le_trans HSZ6.out hb7.size⟩
      rw[HTK.out]
      refine KidsR.snoc HKC.out hb7 HNOD.out HN6.out ?_
      rw[HTL.out]
      exact hown7
     case measure=>simp[intOf];omega
    |succ m=>
     have dg:=HN6b.out m rfl
     have q:=less_str (ntF n (kids[m]'(by omega))).name f'.name
     have hq:=HLTk.out m rfl
     rw[hq] at q
     clear hq
     have hm1:((m+1:Nat):Int)-1=m:=by omega
     have hm2:(0:Int)<((m+1:Nat):Int):=by omega
     have hm4:(m:Int)<((m+1:Nat):Int):=by omega
     have hm5:(0:Int)≤(m:Int)+1:=by omega
     have hcc:=HCC.out
     have hcap:(m:Int)+1≤cap:=by omega
     clear hcc
     generalize (ntF n kids[m]).name=s2 at*
     go_wp2_with fail
     go_quiet (fail)
     go_wp2_with fail
     by_cases hce:cap=m+1
     ·subst hce
      go_region_law (
       refine step_append_full rfl _ _ 22 rfl w2.heap.size 25 i0 (.agg nodeZ) 12 152 Tryz.underlying22 hi hz0 hz1 hz2 rfl ⟨g,0,none⟩ (m+1) kcs.flatten rfl ?_ ?_ ⟨w6.heap.size,0,none⟩ 1 1 (nfCells f' (.slice b1 d1 e1) (.slice b2 d2 e2)) rfl rfl ?_ ?_ ?_ ?_ ?_ ?_
       ·exact HOW.out.1
       ·exact (own_below' HOW.out (below_drewAlloc _ _ _)).cells rfl
       ·exact World.news_of_block (fr:=(0,0)) (heap_alloc_last _ _)
       ·omega
       ·unfold maxLen;omega
       ·omega
       ·exact Nat.le_trans (by first|exact HSZ6.out|exact HSZS.out) (below_drewAlloc _ _ _).size
       intro cap2 w7 hown7 hgrow7)
      rw[drewAlloc_size] at hown7
      have hb7:Below w6.heap.size w6 w7:=(below_drewAlloc w6 (nq+1) _).grown hgrow7 (below_drewAlloc _ _ _).size (fun j hj=>by cases hj)
      go_wp2
      go_roundw
      case rel=>
       refine ⟨m+1+1,_,cap2,by omega,by go_num,rfl,?_,HBW.out.trans (hb7.mono HBW.out.size),HXA.out.step hb7,HXR.out.step hb7,Nat.le_trans HSZ6.out hb7.size⟩
       rw[HTK.out]
       refine KidsR.snoc HKC.out hb7 HNOD.out HN6.out ?_
       rw[HTL.out]
       exact hown7
      case measure=>simp[intOf];omega
     ·go_region_law (
       refine step_append_full rfl _ _ 22 rfl w2.heap.size 25 i0 (.agg nodeZ) 12 152 Tryz.underlying22 hi hz0 hz1 hz2 rfl ⟨g,0,none⟩ (m+1) kcs.flatten rfl ?_ ?_ ⟨w6.heap.size,0,none⟩ 1 1 (nfCells f' (.slice b1 d1 e1) (.slice b2 d2 e2)) rfl rfl ?_ ?_ ?_ ?_ ?_ ?_
       ·exact HOW.out.1
       ·exact (own_below' HOW.out (below_drewAlloc _ _ _)).cells rfl
       ·exact World.news_of_block (fr:=(0,0)) (heap_alloc_last _ _)
       ·omega
       ·unfold maxLen;omega
       ·omega
       ·exact Nat.le_trans (by first|exact HSZ6.out|exact HSZS.out) (below_drewAlloc _ _ _).size
       intro cap2 w7 hown7 hgrow7)
      rw[drewAlloc_size] at hown7
      have hb7:Below w6.heap.size w6 w7:=(below_drewAlloc w6 (nq+1) _).grown hgrow7 (below_drewAlloc _ _ _).size (fun j hj=>by cases hj)
      go_wp2
      go_roundw
      case rel=>
       refine ⟨m+1+1,_,cap2,by omega,by go_num,rfl,?_,HBW.out.trans (hb7.mono HBW.out.size),HXA.out.step hb7,HXR.out.step hb7,Nat.le_trans HSZ6.out hb7.size⟩
       rw[HTK.out]
       refine KidsR.snoc HKC.out hb7 HNOD.out HN6.out ?_
       rw[HTL.out]
       exact hown7
      case measure=>simp[intOf];omega
   ·have hi1:(kids.length:Int)≤k:=by omega
    have hk':k=kids.length:=by omega
    subst hk'
    rw[List.take_length] at hkr
    generalize g=gk at*
    generalize cap=capk at*
    go_wp2_with fail
    have hb3:=below_alloc1 wr (.cells #[] 122)
    have HO0:=hQ (World.ownsRow_made (e:=122) (size:=2) wr #[] 0 (Nat.le_refl _) (Nat.zero_le _) rfl)
    have HKR:=hQ (hkr.step hb3)
    have HBW:=hQ (hbw.trans (hb3.mono hbw.size))
    have HBX:=hQ (hbox.step hb3)
    have HBXR:=hQ (hboxR.step hb3)
    have HSW:=hQ hszw
    clear hkr hbw hbox hboxR c10 HLT IH HK hszw HS3 HC HZ
    have hsz3:=hb3.size
    generalize hW0:wr.heap.size=S0 at*
    generalize wr.alloc _=w4 at*
    clear hb3 hW0
    generalize decide (kids.length<kids.length)=dd
    clear hi1 hlt
    go_loopw [7,8] (fun sv i wr=> ∃k g cap:Nat,k≤f.streams.length∧i= .int .i64 k∧sv= .slice (some ⟨g,0,none⟩) k cap∧wr.ownsRow S0 122 2 sv k ((strCells f.streams).take k).flatten∧KidsR wr w2.heap.size n (.slice (some ⟨gk,0,none⟩) kids.length capk) kids∧Below w.heap.size w wr∧Box 25 w.heap.size (nfCells f (.slice ka kids.length kc) (.slice a f.streams.length c)) wr∧Box 25 (w.heap.size+1) nodeZ.toList wr∧S0≤wr.heap.size) (fun _ i _=>f.streams.length-(intOf i).toNat)
    case atStart=>exact ⟨0,S0,0,Nat.zero_le _,rfl,rfl,HO0.out,HKR.out,HBW.out,HBX.out,HBXR.out,hsz3⟩
    case round=>
     obtain ⟨k,g,cap,hk,rfl,rfl,hown,hkr,hbw,hbox,hboxR,hszs⟩:=hrel
     clear HO0 HKR HBW HBX HBXR hsz3
     have c11:=hbox.cell 11 _ rfl
     by_cases hlt:k<f.streams.length
     ·have hi1:(k:Int)<f.streams.length:=by omega
      obtain ⟨b,off,rfl,hbB,h0,h1⟩:=HROW.out k hlt
      have hbb:b<w.heap.size:=Nat.lt_of_lt_of_le hbB hB
      have d0:=(hbw.cell hbb).trans h0
      have d1:=(hbw.cell hbb).trans h1
      have HTK:=hQ (show (strCells f.streams).take (k+1)=(strCells f.streams).take k++[[.string f.streams[k].1, .string f.streams[k].2]] by
       rw[List.take_succ_eq_append_getElem (by rw[strCells_len];exact hlt),strCells_get _ _ hlt])
      have HLTk:=hQ (fun m (hm:m+1=k)=>show ltB (f.streams[m]'(by omega)).1.data.toList f.streams[k].1.data.toList=true by
       subst hm;exact HLS.out m hlt)
      have HNAME:=hQ (fun m (hm:m+1=k)=>show wr.cell? ⟨g,m*2,none⟩=some (.string (f.streams[m]'(by omega)).1) by
       have h:=hown.cellAt (m*2+0) (by omega)
       rw[flat_at 2 _ (fun c hc=>strCells_two _ c (List.mem_of_mem_take hc)) m 0 (by rw[List.length_take,strCells_len];omega) (by omega),List.getElem_take,strCells_get _ _ (by omega)] at h
       exact h)
      have HCC:=hQ (own_cap hown).1
      have HOW:=hQ hown
      have HKR:=hQ hkr
      have HBW:=hQ hbw
      have HXA:=hQ hbox
      have HXR:=hQ hboxR
      have HSZS:=hQ hszs
      clear hown hkr hbw hbox hboxR hszs h0 h1
      generalize f.streams[k]=st at*
      obtain ⟨s1,s2⟩:=st
      dsimp only at d0 d1 HTK HLTk
      go_wp2_with fail
      refine wp_loop_rounds 1 ?_
      rw[rounds_succ]
      cases k with
      |zero=>
       rw[Nat.zero_mul,Nat.add_zero] at d0 d1
       have hcc:=HCC.out
       have hcap:(0:Int)≤cap:=by omega
       clear hcc
       go_wp2_with fail
       go_quiet (fail)
       go_wp2_with fail
       go_region_law (
        refine step_append_full rfl _ _ 23 rfl S0 122 i1 (.agg #[.string ⟨#[]⟩, .string ⟨#[]⟩]) 2 32 Tryz.underlying23 hi' hy0 hy1 hy2 rfl ⟨g,0,none⟩ (0) ((strCells f.streams).take (0)).flatten rfl ?_ ?_ ⟨wr.heap.size,0,none⟩ 1 1 ([.string s1, .string s2]) rfl rfl ?_ ?_ ?_ ?_ ?_ ?_
        ·exact HOW.out.1
        ·exact (own_below' HOW.out (below_drewAlloc _ _ _)).cells rfl
        ·exact World.news_of_block (fr:=(0,0)) (heap_alloc_last _ _)
        ·omega
        ·unfold maxLen;omega
        ·omega
        ·exact Nat.le_trans (by first|exact HSZ6.out|exact HSZS.out) (below_drewAlloc _ _ _).size
        intro cap2 w7 hown7 hgrow7)
       rw[drewAlloc_size] at hown7
       have hb7:Below wr.heap.size wr w7:=(below_drewAlloc wr (nq+1) _).grown hgrow7 (below_drewAlloc _ _ _).size (fun j hj=>by cases hj)
       go_wp2
       go_roundw
       case rel=>
        refine ⟨0+1,_,cap2,by omega,by go_num,rfl,?_,HKR.out.step hb7,HBW.out.trans (hb7.mono HBW.out.size),HXA.out.step hb7,HXR.out.step hb7,Nat.le_trans HSZS.out hb7.size⟩
        rw[HTK.out,List.flatten_append]
        exact hown7
       case measure=>simp[intOf];omega
      |succ m=>
       have dg:=HNAME.out m rfl
       have q:=less_str (f.streams[m]'(by omega)).1 s1
       have hq:=HLTk.out m rfl
       rw[hq] at q
       clear hq
       have hm1:((m+1:Nat):Int)-1=m:=by omega
       have hm2:(0:Int)<((m+1:Nat):Int):=by omega
       have hm4:(m:Int)<((m+1:Nat):Int):=by omega
       have hm5:(0:Int)≤(m:Int)+1:=by omega
       have hm6:(m:Int)+1<f.streams.length:=by omega
       have hcc:=HCC.out
       have hcap:(m:Int)+1≤cap:=by omega
       clear hcc
       generalize (f.streams[m]'(by omega)).1=s3 at*
       go_wp2_with fail
       go_quiet (fail)
       go_wp2_with fail
       by_cases hce:cap=m+1
       ·subst hce
        go_region_law (
         refine step_append_full rfl _ _ 23 rfl S0 122 i1 (.agg #[.string ⟨#[]⟩, .string ⟨#[]⟩]) 2 32 Tryz.underlying23 hi' hy0 hy1 hy2 rfl ⟨g,0,none⟩ (m+1) ((strCells f.streams).take (m+1)).flatten rfl ?_ ?_ ⟨wr.heap.size,0,none⟩ 1 1 ([.string s1, .string s2]) rfl rfl ?_ ?_ ?_ ?_ ?_ ?_
         ·exact HOW.out.1
         ·exact (own_below' HOW.out (below_drewAlloc _ _ _)).cells rfl
         ·exact World.news_of_block (fr:=(0,0)) (heap_alloc_last _ _)
         ·omega
         ·unfold maxLen;omega
         ·omega
         ·exact Nat.le_trans (by first|exact HSZ6.out|exact HSZS.out) (below_drewAlloc _ _ _).size
         intro cap2 w7 hown7 hgrow7)
        rw[drewAlloc_size] at hown7
        have hb7:Below wr.heap.size wr w7:=(below_drewAlloc wr (nq+1) _).grown hgrow7 (below_drewAlloc _ _ _).size (fun j hj=>by cases hj)
        go_wp2
        go_roundw
        case rel=>
         refine ⟨m+1+1,_,cap2,by omega,by go_num,rfl,?_,HKR.out.step hb7,HBW.out.trans (hb7.mono HBW.out.size),HXA.out.step hb7,HXR.out.step hb7,Nat.le_trans HSZS.out hb7.size⟩
         rw[HTK.out,List.flatten_append]
         exact hown7
        case measure=>simp[intOf];omega
       ·go_region_law (
         refine step_append_full rfl _ _ 23 rfl S0 122 i1 (.agg #[.string ⟨#[]⟩, .string ⟨#[]⟩]) 2 32 Tryz.underlying23 hi' hy0 hy1 hy2 rfl ⟨g,0,none⟩ (m+1) ((strCells f.streams).take (m+1)).flatten rfl ?_ ?_ ⟨wr.heap.size,0,none⟩ 1 1 ([.string s1, .string s2]) rfl rfl ?_ ?_ ?_ ?_ ?_ ?_
         ·exact HOW.out.1
         ·exact (own_below' HOW.out (below_drewAlloc _ _ _)).cells rfl
         ·exact World.news_of_block (fr:=(0,0)) (heap_alloc_last _ _)
         ·omega
         ·unfold maxLen;omega
         ·omega
         ·exact Nat.le_trans (by first|exact HSZ6.out|exact HSZS.out) (below_drewAlloc _ _ _).size
         intro cap2 w7 hown7 hgrow7)
        rw[drewAlloc_size] at hown7
        have hb7:Below wr.heap.size wr w7:=(below_drewAlloc wr (nq+1) _).grown hgrow7 (below_drewAlloc _ _ _).size (fun j hj=>by cases hj)
        go_wp2
        go_roundw
        case rel=>
         refine ⟨m+1+1,_,cap2,by omega,by go_num,rfl,?_,HKR.out.step hb7,HBW.out.trans (hb7.mono HBW.out.size),HXA.out.step hb7,HXR.out.step hb7,Nat.le_trans HSZS.out hb7.size⟩
         rw[HTK.out,List.flatten_append]
         exact hown7
        case measure=>simp[intOf];omega
     ·have hi1:(f.streams.length:Int)≤k:=by omega
      have hk':k=f.streams.length:=by omega
      subst hk'
      have hte:(strCells f.streams).take f.streams.length=strCells f.streams:=List.take_of_length_le (by rw[strCells_len];exact Nat.le_refl _)
      rw[hte] at hown
      have c10:=hbox.cell 10 _ rfl
      have f10:=hbox.frozen 10
      have f11:=hbox.frozen 11
      have hsw:=HSW.out
      have hk1:=(Kp.setIn wr w.heap.size 10 (.slice (some ⟨gk,0,none⟩) kids.length capk)).trans (Kp.setIn _ w.heap.size 11 (.slice (some ⟨g,0,none⟩) f.streams.length cap))
      have hbox1:=(hbox.setCell 10 (.slice (some ⟨gk,0,none⟩) kids.length capk)).setCell 11 (.slice (some ⟨g,0,none⟩) f.streams.length cap)
      have hboxR1:=hboxR.kp hk1 (by omega)
      obtain ⟨kcs,hkcs,hrv,hnod⟩:=hkr.rowV
      have hrs:=RowV.of_own (strCells_two _) (strCells_len _).symm hown
      have hrv1:=hrv.fr_kp hk1 (fun b hb=>by omega)
      have hnod1:=fun j hj=>(hnod j hj).fr_kp hk1 (fun b hb=>by omega)
      have hrs1:=hrs.fr_kp hk1 (fun b hb=>by omega)
      have hbw1:=hbw.trans (hk1.below (B:=w.heap.size) (fun b hb=>by omega) hbw.size)
      have HRV1:=hQ hrv1
      have HNOD1:=hQ hnod1
      have HRS1:=hQ hrs1
      clear hkr hrv hnod hrs hrv1 hnod1 hrs1 hboxR hown hk1 hte
      go_upto_region 19 with (fail)
      clear c10 c11 f10 f11 hbox
      generalize (wr.setCell _ _).setCell _ _=w7 at*
      have hboxL:Box 25 w.heap.size (nfCells f (.slice (some ⟨gk,0,none⟩) kids.length capk) (.slice (some ⟨g,0,none⟩) f.streams.length cap)) w7:=hbox1
      go_wp2_with (first
       |(refine wpList_load_row rfl _ _ rfl w.heap.size _ _ _ rfl hboxL Tryz.underlying25 rfl 12 node_size rfl ?_)
       |(refine wpList_store_row rfl _ _ _ rfl (w.heap.size+1) _ _ (nfCells f (.slice (some ⟨gk,0,none⟩) kids.length capk) (.slice (some ⟨g,0,none⟩) f.streams.length cap)).toArray rfl rfl hboxR1 12 node_size rfl rfl (node_one _ _ _ _ _ _ _) ?_)
       |go_in)
      have hkR:=Kp.setRow w7 (w.heap.size+1) (nfCells f (.slice (some ⟨gk,0,none⟩) kids.length capk) (.slice (some ⟨g,0,none⟩) f.streams.length cap)).toArray
      have hboxF:=hboxR1.setRow (nfCells f (.slice (some ⟨gk,0,none⟩) kids.length capk) (.slice (some ⟨g,0,none⟩) f.streams.length cap))
      refine bodyPost_ret (results_cell_row Tryz.results222 _ _ (w.heap.size+1) _ _ _ _ rfl hboxF Tryz.underlying25 rfl node_size) rfl ⟨_,rfl,?_,hbw1.trans (hkR.below (fun b hb=>by omega) hbw1.size)⟩
      exact ⟨_,_,kcs,rfl,(HRS1.out.fr_kp hkR (fun b hb=>by omega)).fr_base (by omega),(HRV1.out.fr_kp hkR (fun b hb=>by omega)).fr_base (by omega),hkcs,fun j hj hj'=>((HNOD1.out j hj).fr_kp hkR (fun b hb=>by omega)).fr_base (by omega)⟩
end Go.Proofs.YtbeccmkegckjjaaGreatDoor
end
