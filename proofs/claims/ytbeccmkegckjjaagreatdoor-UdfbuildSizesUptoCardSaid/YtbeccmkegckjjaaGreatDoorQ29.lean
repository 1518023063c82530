/- Law 43, UdfbuildSizes: a part of the proof. -/
import Derived.Test.YtbeccmkegckjjaaGreatDoorQ19
import Derived.Test.YtbeccmkegckjjaaGreatDoorQ25
section
namespace Go.Proofs.YtbeccmkegckjjaaGreatDoor
open Go.RowKit
set_option maxRecDepth 1000000
set_option maxHeartbeats 12800000
theorem r_flatten: ∀(n:Nat) (t:NT n) (vs:List Value) (B base:Nat) (C:Nat→Prop) (w:World) (v:Value) (es:List FE) (cs:List (List Value)) (kvs:List Value) (path:ByteArray) (parent:Nat),NodeV w (· < B) n t vs→B≤base→base≤w.heap.size→
 FlatR 127 tailR B base C w v es cs kvs→(∀b,C b→B≤b∧b<w.heap.size)→es.length+ntCount n t≤64→ntBytes n t≤65536→path.size+n*70000≤1000000000→parent≤64→
 Calls Tryz.prog 50 #[v, .agg vs.toArray, .string path, .int .i64 (parent:Int)] w fun e w'=> ∃(v':Value) (cs':List (List Value)) (kvs':List Value),e= .returned v'∧FlatR 127 tailR B base (Cr C w.heap.size w') w' v' (es++fl n t es.length) cs' kvs'∧Kp C w w'
 |0,_,_,_,_,_,_,_,_,_,_,_,_,h,_,_,_,_,_,_,_,_=>h.elim
 |n+1,(f,kids),vs,B,base,C,w,v,es,cs,kvs,path,parent,h,hBb,hbw,hfr,hC,hcnt,hz,hp,hpa=>by
  obtain ⟨i0,hi,hz0,hz1,hz2⟩:=info_parts info_flat
  obtain ⟨i1,hi',hy0,hy1,hy2⟩:=info_parts info_int
  obtain ⟨ka,kc,a,c,rfl,hrow,hk⟩:=h.parts
  obtain ⟨-, -, -,z4, -⟩:=nf_bounds hz
  have hcnt1:ntCount (n+1) (f,kids)≤64:=by omega
  have hkl:=kids_len hcnt1
  have HN:=hQ h
  obtain ⟨kv0,sv0,kcs0,hE1,hE2,hE3,hE4,hE5⟩:=h
  have hE1':(Value.slice ka kids.length kc)=kv0∧(Value.slice a f.streams.length c)=sv0:=by
   unfold nfCells at hE1;simp at hE1;exact hE1
  obtain ⟨rfl,rfl⟩:=hE1'
  have HE0:=hQ (fun u:Int=>show FlatE tailR w B ⟨f,kids.map (ntF n),[]⟩ (flCells f (.slice ka kids.length kc) (.slice a f.streams.length c) path parent u (.slice none 0 0)) (.slice none 0 0) from
   ⟨_,_,kcs0,_,flCells_nf _ _ _ _ _ _ _,rfl,⟨_,_,_,rfl⟩,hE2,hE3,by rw[hE4];simp,fun k hk hk'=>by
     rw[List.length_map] at hk
     obtain ⟨x1,x2,x3,x4,x5,x6,q⟩:=(hE5 k hk hk').cellsF
     exact ⟨x1,x2,x3,x4,x5,x6,by rw[List.getElem_map];exact q⟩⟩)
  obtain ⟨va,vc,rfl⟩:=own_slice hfr.own
  have HK:=hQ hk
  have HC:=hQ hC
  have HZ:=hQ hz
  have HCN:=hQ hcnt
  have HFR:=hQ hfr
  have HP:=hQ hp
  clear hp
  have IH:=hQ (r_flatten n)
  have HB0:=hQ (Box.new (ty:=25) w (nfCells f (.slice ka kids.length kc) (.slice a f.streams.length c)))
  have hb1:=below_alloc1 w (.cells (nfCells f (.slice ka kids.length kc) (.slice a f.streams.length c)).toArray 25)
  have hesl:es.length≤64:=by omega
  have HSZ1:=hQ (show (w.alloc (.cells (nfCells f (.slice ka kids.length kc) (.slice a f.streams.length c)).toArray 25)).heap.size=w.heap.size+1 from alloc_size _ _)
  clear hrow hk hC hz hcnt hcnt1 hfr hE1 hE2 hE3 hE4 hE5
  unfold nfCells at HB0 hb1 HSZ1 ⊢
  go_enter Tryz.func50,Tryz.ntmps50
  go_upto_region 1 with (fail)
  generalize w.alloc _=w1 at*
  have hboxA:Box 25 w.heap.size (nfCells f (.slice ka kids.length kc) (.slice a f.streams.length c)) w1:=HB0.out
  have hboxU:=hboxA
  unfold nfCells at hboxU
  go_upto_if 20 with (first
   |(refine wpList_load_row rfl _ _ rfl w.heap.size _ _ _ rfl hboxU Tryz.underlying25 rfl 12 node_size rfl ?_)
   |(refine wpList_store_row rfl _ _ _ rfl w1.heap.size _ flatZ (flCells f (.slice ka kids.length kc) (.slice a f.streams.length c) path parent 0 (.slice none 0 0)).toArray rfl rfl (heap_alloc_last _ _) 16 flat_size rfl rfl (fl_one _ _ _ _ _ _ _ _ _ _ _ _ _) ?_)
   |go_in)
  have hst2:=box_store 127 w1 flatZ (flCells f (.slice ka kids.length kc) (.slice a f.streams.length c) path parent 0 (.slice none 0 0))
  unfold flatZ at hst2
  generalize World.setRow _ _ _=w2 at hst2 ⊢
  obtain ⟨hboxX,hb2⟩:=hst2
  have hboxA2:=hboxA.step hb2
  have hbw2:=hb1.trans (hb2.mono hb1.size)
  have HX:=hQ (show w.heap.size<w1.heap.size by rw[HSZ1.out];omega)
  generalize w1.heap.size=X at*
  clear hboxA hboxU HB0 hb1 hb2 HSZ1
  have hxw:w.heap.size≠X:=by have:=HX.out;omega
  have hdd:(w.heap.size==X)=false:=by rw[beq_eq_false_iff_ne];exact hxw
  go_cut [] (fun wx=> ∃u:Int,Box 127 X (flCells f (.slice ka kids.length kc) (.slice a f.streams.length c) path parent u (.slice none 0 0)) wx∧Box 25 w.heap.size (nfCells f (.slice ka kids.length kc) (.slice a f.streams.length c)) wx∧Below w.heap.size w wx)
  case first=>
   by_cases h0:es.length=0
   ·have h0': ¬(0:Int)<es.length:=by omega
    clear h0
    go_wp2_with fail
    go_meet
    case rel=>exact ⟨0,hboxX,hboxA2,hbw2⟩
   ·have h0':(0:Int)<es.length:=by omega
    clear h0
    have q14:=hboxX.cell 14 _ rfl
    have f14:=hboxX.frozen 14
    have hk:=Kp.setIn w2 X 14 (.int .i64 (16+(es.length:Int)-1))
    have hboxX2:=hboxX.setCell 14 (.int .i64 (16+(es.length:Int)-1))
    have hboxA3:=hboxA2.kp hk (fun e=>hxw e)
    have hX:=HX.out
    have hbw3:=hbw2.trans (hk.below (B:=w.heap.size) (fun b hb=>by omega) hbw2.size)
    go_wp2_with fail
    go_meet
    case rel=>exact ⟨_,hboxX2,hboxA3,hbw3⟩
  case rest=>
   obtain ⟨u,hbX,hbA,hbw3⟩:=hcut
   have hXlt:=hbX.lt
   have hBw:=Nat.le_trans hBb hbw
   have hfr0:=HFR.out.kp (Kp.of (C:=fun _=>False) hbw3) (fun b hb=>hb.elim) hBw
   have HE1:=hQ ((HE0.out u).below (hbw3.mono hBw))
   have hbU:=hbX
   unfold flCells at hbU
   clear hboxX hboxA2 hbw2 hdd
   go_upto_region 6 with (first
    |(refine wpList_load_row rfl _ _ rfl X _ _ _ rfl hbU Tryz.underlying127 rfl 16 flat_size rfl ?_)
    |(at_builtin;refine wpList_append_blk rfl _ _ 67 rfl base 127 i0 (.agg flatZ) 16 208 Tryz.underlying67 hi hz0 hz1 hz2 rfl (by decide) (.slice va es.length vc) es.length cs.flatten rfl ?_ ⟨wc.heap.size,0,none⟩ 1 1 (flCells f (.slice ka kids.length kc) (.slice a f.streams.length c) path parent u (.slice none 0 0)) rfl rfl ?_ ?_ ?_ ?_ ?_ ?_)
    |fail)
   ·exact own_below' hfr0.own (below_alloc1 _ _)
   ·exact new_cells wc _ _
   ·exact fl_cell _ _ _ _ _ _ _ _ _ _ _ _ _
   ·unfold maxLen;omega
   ·omega
   ·exact Nat.le_trans hbw (Nat.le_trans hbw3.size (below_alloc1 _ _).size)
   intro v5 w5 hown5 hgrow5 hblk5
   have hsn:=FlatR.snoc (C':=Cr C (X+1) w5) hfr0 (below_alloc1 wc _) hown5 hgrow5 (fun b hb=>by have:=hblk5 b hb;rw[alloc_size];exact this) HE1.out (Nat.le_trans hBw hbw3.size) (fun b hb=>(HC.out b hb).1) (fun b hb=> .inl hb) (fun b hb hb2=> .inr ⟨by omega,hb2⟩)
   obtain ⟨hfr5,hk5⟩:=hsn
   have hXw:=HX.out
   have hkp5:=(Kp.of (C:=C) hbw3).low hk5 (by omega)
   have hbox5:=hbA.kp hk5 (fun hc=>hc.elim (fun h1=>absurd (HC.out _ h1).2 (Nat.lt_irrefl _)) fun h2=>by omega)
   have hsz5:X+1≤w5.heap.size:=Nat.le_trans hXlt hk5.size
   have HFR5:=hQ (show FlatR 127 tailR B base (Cr C (X+1) w5) w5 v5 (es++⟨f,kids.map (ntF n),(flSt n kids es.length 0).1⟩::(flSt n kids es.length 0).2) (cs++[_]) (kvs++[_]) from by rw[flSt_zero];exact hfr5)
   clear hfr0 hfr5 hk5 hbU hbX hbA hgrow5 hown5 hblk5 HE1 HFR HE0 hbw3 hXlt
   go_wp2_with fail
   go_loopw [0,11] (fun out i wr=> ∃(k:Nat) (cs':List (List Value)) (kvs':List Value),k≤kids.length∧i= .int .i64 k∧FlatR 127 tailR B base (Cr C (X+1) wr) wr out (es++⟨f,kids.map (ntF n),(flSt n kids es.length k).1⟩::(flSt n kids es.length k).2) cs' kvs'∧Kp C w wr∧Box 25 w.heap.size (nfCells f (.slice ka kids.length kc) (.slice a f.streams.length c)) wr∧X+1≤wr.heap.size) (fun _ i _=>kids.length-(intOf i).toNat)
   case atStart=>exact ⟨0,_,_,Nat.zero_le _,rfl,HFR5.out,hkp5,hbox5,hsz5⟩
   case round=>
    obtain ⟨k,cs',kvs',hk,rfl,hfr,hkp,hbox,hsz⟩:=hrel
    clear HFR5 hkp5 hbox5 hsz5
    have c10:=hbox.cell 10 _ rfl
    by_cases hlt:k<kids.length
    ·have hi1:(k:Int)<kids.length:=by omega
     have hXw:=HX.out
     have HS1:=hQ (flSt_succ n kids es.length k hlt)
     have HLS:=hQ (flSt_len n kids es.length k (by omega))
     have hcntk:(flSt n kids es.length k).2.length+ntCount n kids[k]≤(flSt n kids es.length kids.length).2.length:=by
      have h1: ∀j,k+1≤j→j≤kids.length→(flSt n kids es.length (k+1)).2.length≤(flSt n kids es.length j).2.length:=fun j=>by
       induction j with
       |zero=>intro h;omega
       |succ j ih=>
        intro h1 h2
        rcases Nat.lt_or_ge k j with h|h
        ·refine Nat.le_trans (ih (by omega) (by omega)) ?_
         rw[flSt_succ n kids es.length j h2,List.length_append];omega
        ·rw[show j=k by omega];exact Nat.le_refl _
      have h2:=h1 kids.length hlt (Nat.le_refl _)
      rw[HS1.out,List.length_append,fl_len] at h2
      exact h2
     have hall:es.length+1+(flSt n kids es.length kids.length).2.length≤64:=by
      have h1:=fl_len (n+1) (f,kids) es.length
      rw[fl_def,List.length_cons] at h1
      have:=HCN.out
      omega
     generalize flSt n kids es.length k=st at*
     obtain ⟨s1,s2⟩:=st
     dsimp only at HS1 HLS hcntk hfr
     have hm:s2.length+ntCount n kids[k]≤63:=by omega
     have hml:es.length+1+s2.length+ntCount n kids[k]≤64:=by omega
     have HML:=hQ hml
     have hes':(es++(⟨f,kids.map (ntF n),s1⟩:FE)::s2).length=es.length+1+s2.length:=by rw[List.length_append,List.length_cons];omega
     have hown:=hfr.own
     rw[hes'] at hown
     obtain ⟨g,cap,rfl,hg1,hg2⟩:=hown.form (by omega)
     have HES:=hQ hes'
     have hlk:=hfr.lk
     have hlc:=hfr.lc
     have hik:es.length<kvs'.length:=by omega
     have hic:es.length<cs'.length:=by omega
     have hie:es.length<(es++(⟨f,kids.map (ntF n),s1⟩:FE)::s2).length:=by omega
     have q15:=hfr.kvAt es.length hie hik
     have hints:=hfr.ints es.length hie hik
     have HMG:=hQ (mid_get es s2 (⟨f,kids.map (ntF n),s1⟩:FE) hie)
     rw[HMG.out] at hints
     have hap:=hfr.aprt
     rw[List.pairwise_cons] at hap
     have hapi:=hap.1 _ (List.getElem_mem hik)
     obtain ⟨b,off,kcells,rfl,hbB,hnode0,hcell⟩:=HK.out k hlt
     have hBw':=hkp.below (fun b hb=>(HC.out b hb).1) hBw
     have hnode:=hnode0.below hBw'
     obtain ⟨a',a2',l',c',l2',c2',rfl⟩:=hnode.cellsF
     have d0:=(hBw'.cell hbB).trans (hcell 0 _ rfl)
     rw[Nat.add_zero] at d0
     have hnm:=name_le_bytes n kids[k]
     have HZZ:=hQ (Nat.le_trans (kid_bytes (f:=f) hlt) HZ.out)
     have hnmz:((ntF n kids[k]).name.size:Int)≤65536:=by have:=HZZ.out;omega
     have hpz:(path.size:Int)≤1000000000:=by have:=HP.out;omega
     have HND:=hQ hnode0
     have HCEL:=hQ hcell
     have HFRR:=hQ hfr
     have HOWN:=hQ hown
     have HINTS:=hQ hints
     have HKP:=hQ hkp
     have HBX:=hQ hbox
     have HSZ:=hQ hsz
     have HAP:=hQ hapi
     have hi2:(es.length:Int)<(es.length:Int)+1+s2.length:=by omega
     have hi3:(es.length:Int)+1+s2.length≤64:=by omega
     have hi4:((es.length+1+s2.length:Nat):Int)=(es.length:Int)+1+s2.length:=by omega
     generalize hM:es.length+1+s2.length=M at*
     have hi5:(es.length:Int)<M:=by omega
     have hi6:(M:Int)≤64:=by omega
     have HM:=hQ hM
     generalize hkv:kvs'[es.length]=kvi at*
     have HKV:=hQ hkv
     clear hkv hM hi4 hi2 hi3 hnode hnode0 hcell hfr hown hints hkp hsz hap hapi hcntk hall hm hml hes' hlk hlc hnm
     have hbb:b<w.heap.size:=Nat.lt_of_lt_of_le hbB hBw
     have hcellr: ∀j x,(nfCells (ntF n kids[k]) (.slice a' l' c') (.slice a2' l2' c2'))[j]? =some x→wr.cell? ⟨b,off+k*12+j,none⟩=some x:=fun j x hx=>(hBw'.cell hbB).trans (HCEL.out j x hx)
     have hCB: ∀(W:World) (b:Nat),Cr C (X+1) W b→B≤b:=fun W b hb=>hb.elim (fun h1=>(HC.out b h1).1) fun h2=>by omega
     have hwr:w.heap.size≤wr.heap.size:=HKP.out.size
     have HSTEP:=hQ (fun (w1 w6:World) (kv':Value) (h01:Below wr.heap.size wr w1) ho hg hbk=>FlatR.step (w1:=w1) (w6:=w6) (kv':=kv') (x:=M) HFRR.out hik HKV.out 3 (by omega) tailR_set (Nat.le_trans hBw hwr) (hCB wr) HSZ.out h01 ho hg hbk)
     have HCALL:=hQ (show ∀(W7:World) (bl:ByteArray) (cs7:List (List Value)) (kvs7:List Value),FlatR 127 tailR B base (Cr C (X+1) W7) W7 (.slice (some ⟨g,0,none⟩) M cap) (es++(⟨f,kids.map (ntF n),s1++[M]⟩:FE)::s2) cs7 kvs7→Kp (Cr C (X+1) W7) wr W7→bl.size≤path.size+65537→
      Calls Tryz.prog 50 #[.slice (some ⟨g,0,none⟩) M cap, .agg (nfCells (ntF n kids[k]) (.slice a' l' c') (.slice a2' l2' c2')).toArray, .string bl, .int .i64 (es.length:Int)] W7 fun e w8=> ∃v8,e= .returned v8∧(∃(cs8:List (List Value)) (kvs8:List Value),FlatR 127 tailR B base (Cr C (X+1) w8) w8 v8 (es++(⟨f,kids.map (ntF n),(flSt n kids es.length (k+1)).1⟩:FE)::(flSt n kids es.length (k+1)).2) cs8 kvs8)∧Kp C w w8∧Box 25 w.heap.size (nfCells f (.slice (some ⟨b,off,none⟩) kids.length kc) (.slice a f.streams.length c)) w8∧X+1≤w8.heap.size from by
      intro W7 bl cs7 kvs7 hfr7 hk7 hbl
      have hBW:Below B wr W7:=hk7.below (hCB W7) (Nat.le_trans hBw hwr)
      have hn7:=HND.out.below (hBw'.trans hBW)
      have hlen7:(es++(⟨f,kids.map (ntF n),s1++[M]⟩:FE)::s2).length=M:=by rw[List.length_append,List.length_cons, ←HM.out];omega
      have hpl:bl.size+n*70000≤1000000000:=by have:=HP.out;omega
      refine (IH.out kids[k] _ B base (Cr C (X+1) W7) W7 _ _ cs7 kvs7 bl es.length hn7 hBb (by have:=hk7.size;omega) hfr7 (fun b hb=>⟨hCB W7 b hb,hb.elim (fun h1=>by have:=(HC.out b h1).2;have:=hk7.size;omega) fun h2=>h2.2⟩) (by rw[hlen7];exact HML.out) HZZ.out hpl hesl).mono ?_
      rintro e w8 ⟨v8,cs8,kvs8,rfl,hfr8,hk8⟩
      have hnC: ¬Cr C (X+1) W7 w.heap.size:=fun hc=>hc.elim (fun h1=>absurd (HC.out _ h1).2 (Nat.lt_irrefl _)) fun h2=>by omega
      have hsz7:X+1≤W7.heap.size:=Nat.le_trans HSZ.out hk7.size
      refine ⟨v8,rfl,⟨cs8,kvs8,?_⟩,(HKP.out.low hk7 (by omega)).low hk8 (by omega),(HBX.out.kp hk7 hnC).kp hk8 hnC,Nat.le_trans hsz7 hk8.size⟩
      have h9:=hfr8.weaken (fun b hb=>Cr.cr hk8.size hsz7 hb)
      rw[hlen7,List.append_assoc,List.cons_append] at h9
      rw[HS1.out]
      exact h9)
     clear HND HCEL hBw'
     generalize hfk:ntF n kids[k]=f' at*
     unfold nfCells at HCALL
     have hnm2:f'.name.size≤65536:=by omega
     have e0:(es.length*16+15)=es.length*16+(12+3):=rfl
     have HNC:=hQ (show ∀W:World, ¬Cr C (X+1) W w.heap.size from fun W hc=>hc.elim (fun h1=>absurd (HC.out _ h1).2 (Nat.lt_irrefl _)) fun h2=>by omega)
     have HSW:=hQ (show base≤wr.heap.size+1 by omega)
     have HCB:=hQ hCB
     clear hCB hnm2
     by_cases hpe:path.size=0
     ·have p1:=isE hpe
      have p2:=size0_toList hpe
      have HBL:=hQ (show f'.name.size≤path.size+65537 by omega)
      clear hpe
      go_upto_region 13 with (first
       |(at_builtin;refine wpList_append_blk rfl _ _ 34 rfl base 3 i1 (.int .i64 0) 1 8 Tryz.underlying34 hi' hy0 hy1 hy2 rfl (by decide) kvi s1.length (intsV s1) rfl ?_ ⟨wr.heap.size,0,none⟩ 1 1 [.int .i64 (M:Int)] rfl rfl ?_ ?_ ?_ ?_ ?_ ?_)
       |fail)
      ·exact own_below' HINTS.out (below_alloc1 _ _)
      ·rfl
      ·unfold maxLen;have:=HLS.out;omega
      ·have:=HLS.out;omega
      ·exact HSW.out
      intro kv' w6 hown6 hgrow6 hblk6
      obtain ⟨ka',kc',rfl⟩:=own_slice hown6
      obtain ⟨q6,f6,⟨cs7,kvs7,hfr7⟩,hk7⟩:=HSTEP.out _ w6 _ (below_alloc1 _ _) hown6 hgrow6 (fun b hb=>by have:=hblk6 b hb;rw[alloc_size];exact this)
      have q6':w6.cell? ⟨g,es.length*16+15,none⟩=some kvi:=q6.trans q15
      have f6':w6.frozen? ⟨g,es.length*16+15,none⟩=false:=f6
      obtain ⟨w7,hw7⟩: ∃w7,w7=w6.setCell ⟨g,es.length*16+15,none⟩ (.slice ka' (s1.length+1) kc'):=⟨_,rfl⟩
      have hw7':w6.setCell ⟨g,es.length*16+(12+3),none⟩ (.slice ka' (s1.length+1) kc')=w7:=hw7.symm
      rw[hw7'] at hfr7 hk7
      have HF7:=hQ hfr7
      have hbox7:=HBX.out.kp hk7 (HNC.out _)
      have hB7:Below B wr w7:=hk7.below (HCB.out _) (Nat.le_trans hBw hwr)
      have HK7:=hQ hk7
      have hcell7: ∀j x,(nfCells f' (.slice a' l' c') (.slice a2' l2' c2'))[j]? =some x→w7.cell? ⟨b,off+k*12+j,none⟩=some x:=fun j x hx=>(hB7.cell hbB).trans (hcellr j x hx)
      have HW7:=hQ hw7
      clear q6 f6 hfr7 hk7 hB7 hown6 hgrow6 hblk6 q15 c10 hbox hcellr d0 hw7 hw7'
      go_upto_region 13 with (fail)
      rw[←HW7.out]
      clear q6' f6' HW7
      have c10:=hbox7.cell 10 _ rfl
      go_wp2_with (first
       |(refine wpList_load_at rfl _ _ rfl b (off+k*12) (nfCells f' (.slice a' l' c') (.slice a2' l2' c2')) _ rfl hcell7 Tryz.underlying25 rfl node_size ?_)
       |fail)
      refine (HCALL.out _ _ cs7 kvs7 HF7.out HK7.out HBL.out).mono ?_
      rintro e w8 ⟨v8,rfl,⟨cs8,kvs8,h8⟩,hk8,hb8,hs8⟩
      clear hbox7 hcell7 c10
      go_wp2
      go_roundw
      case rel=>exact ⟨k+1,cs8,kvs8,by omega,by go_num,h8,hk8,hb8,hs8⟩
      case measure=>simp[intOf];omega
     ·have p1:=isN hpe
      have p2: ¬path.toList=[]:=fun e=>by rw[e] at p1;cases p1
      have HBL:=hQ (show (path++(⟨#[47]⟩:ByteArray)++f'.name).size≤path.size+65537 by
       rw[ByteArray.size_append,ByteArray.size_append]
       show path.size+1+f'.name.size≤_
       omega)
      clear hpe
      go_upto_region 13 with (first
       |(at_builtin;refine wpList_append_blk rfl _ _ 34 rfl base 3 i1 (.int .i64 0) 1 8 Tryz.underlying34 hi' hy0 hy1 hy2 rfl (by decide) kvi s1.length (intsV s1) rfl ?_ ⟨wr.heap.size,0,none⟩ 1 1 [.int .i64 (M:Int)] rfl rfl ?_ ?_ ?_ ?_ ?_ ?_)
       |fail)
      ·exact own_below' HINTS.out (below_alloc1 _ _)
      ·rfl
      ·unfold maxLen;have:=HLS.out;omega
      ·have:=HLS.out;omega
      ·exact HSW.out
      intro kv' w6 hown6 hgrow6 hblk6
      obtain ⟨ka',kc',rfl⟩:=own_slice hown6
      obtain ⟨q6,f6,⟨cs7,kvs7,hfr7⟩,hk7⟩:=HSTEP.out _ w6 _ (below_alloc1 _ _) hown6 hgrow6 (fun b hb=>by have:=hblk6 b hb;rw[alloc_size];exact this)
      have q6':w6.cell? ⟨g,es.length*16+15,none⟩=some kvi:=q6.trans q15
      have f6':w6.frozen? ⟨g,es.length*16+15,none⟩=false:=f6
      obtain ⟨w7,hw7⟩: ∃w7,w7=w6.setCell ⟨g,es.length*16+15,none⟩ (.slice ka' (s1.length+1) kc'):=⟨_,rfl⟩
      have hw7':w6.setCell ⟨g,es.length*16+(12+3),none⟩ (.slice ka' (s1.length+1) kc')=w7:=hw7.symm
      rw[hw7'] at hfr7 hk7
      have HF7:=hQ hfr7
      have hbox7:=HBX.out.kp hk7 (HNC.out _)
      have hB7:Below B wr w7:=hk7.below (HCB.out _) (Nat.le_trans hBw hwr)
      have HK7:=hQ hk7
      have hcell7: ∀j x,(nfCells f' (.slice a' l' c') (.slice a2' l2' c2'))[j]? =some x→w7.cell? ⟨b,off+k*12+j,none⟩=some x:=fun j x hx=>(hB7.cell hbB).trans (hcellr j x hx)
      have HW7:=hQ hw7
      clear q6 f6 hfr7 hk7 hB7 hown6 hgrow6 hblk6 q15 c10 hbox hcellr d0 hw7 hw7'
      go_upto_region 13 with (fail)
      rw[←HW7.out]
      clear q6' f6' HW7
      have c10:=hbox7.cell 10 _ rfl
      go_wp2_with (first
       |(refine wpList_load_at rfl _ _ rfl b (off+k*12) (nfCells f' (.slice a' l' c') (.slice a2' l2' c2')) _ rfl hcell7 Tryz.underlying25 rfl node_size ?_)
       |fail)
      refine (HCALL.out _ _ cs7 kvs7 HF7.out HK7.out HBL.out).mono ?_
      rintro e w8 ⟨v8,rfl,⟨cs8,kvs8,h8⟩,hk8,hb8,hs8⟩
      clear hbox7 hcell7 c10
      go_wp2
      go_roundw
      case rel=>exact ⟨k+1,cs8,kvs8,by omega,by go_num,h8,hk8,hb8,hs8⟩
      case measure=>simp[intOf];omega
    ·have hi1:(kids.length:Int)≤k:=by omega
     have hk':k=kids.length:=by omega
     have h9:=hfr.weaken (C':=Cr C w.heap.size wr) (fun b hb=>hb.elim (fun h1=>Or.inl h1) fun h2=>Or.inr ⟨by have:=HX.out;omega,h2.2⟩)
     rw[hk', ←fl_def] at h9
     have HR:=hQ h9
     clear h9
     have HKP:=hQ hkp
     clear hfr hkp hk'
     go_wp2
     go_ret
     exact ⟨_,cs',kvs',rfl,HR.out,HKP.out⟩
end Go.Proofs.YtbeccmkegckjjaaGreatDoor
end
