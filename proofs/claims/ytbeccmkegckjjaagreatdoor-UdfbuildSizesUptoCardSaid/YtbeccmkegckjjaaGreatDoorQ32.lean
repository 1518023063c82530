/- Law 43, UdfbuildSizes: a part of the proof. -/
import Derived.Test.YtbeccmkegckjjaaGreatDoorQ31
import Derived.Test.YtbeccmkegckjjaaGreatDoorQ29
import Derived.Deep.DeepCutAuto
import Derived.Deep.RegionHeld3
section
namespace Go.Proofs.YtbeccmkegckjjaaGreatDoor
open Go.RowKit
set_option maxRecDepth 1000000
set_option maxHeartbeats 25600000
def tailP(tl:List Value)(kv:Value):Prop:= ∃(p:ByteArray) (a i:Int),tl=[.string p, .int .i64 a,kv, .int .i64 i]
theorem tailP_set(tl:List Value)(kv kv':Value)(_:tl.length=4)(h:tailP tl kv):tailP (tl.set 2 kv') kv':=by
 obtain ⟨p,a,i,rfl⟩:=h
 exact ⟨p,a,i,rfl⟩
def entryZ:Array Value:= #[.string ⟨#[]⟩, .int .i64 0, .string ⟨#[]⟩, .string ⟨#[]⟩, .int .i64 0, .int .i64 0, .int .i64 0, .int .i64 0, .int .i64 0, .int .i64 0, .slice none 0 0, .slice none 0 0, .string ⟨#[]⟩, .int .i64 0, .slice none 0 0, .int .i64 0]
theorem info_entry:(Tryz.prog.info? 119).map (fun i=>(i.zero,i.size,i.bytes))=some (some (.agg entryZ),16,208):=by kernel_rfl
def enCells(f:NF)(kv sv:Value)(p:ByteArray)(a:Int)(ks:Value)(i:Int):List Value:=
 [.string f.name, .int .i64 f.kind, .string f.data, .string f.target, .int .i64 f.mode, .int .i64 f.uid, .int .i64 f.gid, .int .i64 f.time, .int .i64 f.weight, .int .i64 f.hidden,kv,sv, .string p, .int .i64 a,ks, .int .i64 i]
theorem enCells_nf(f:NF)(kv sv:Value)(p:ByteArray)(a:Int)(ks:Value)(i:Int):enCells f kv sv p a ks i=nfCells f kv sv++[.string p, .int .i64 a,ks, .int .i64 i]:=rfl
theorem en_one(f:NF)(a a2 a3:Option Addr)(l c l2 c2 l3 c3:Nat)(p:ByteArray)(x i:Int):(enCells f (.slice a l c) (.slice a2 l2 c2) p x (.slice a3 l3 c3) i).toArray.all (·.oneCell')=true:=by
 unfold enCells;simp[Value.oneCell']
theorem en_cell(f:NF)(a a2 a3:Option Addr)(l c l2 c2 l3 c3:Nat)(p:ByteArray)(x i:Int): ∀y∈enCells f (.slice a l c) (.slice a2 l2 c2) p x (.slice a3 l3 c3) i,y.oneCell'=true:=fun y hy=>by
 have h:=en_one f a a2 a3 l c l2 c2 l3 c3 p x i
 rw[List.all_toArray] at h
 exact List.all_eq_true.1 h y hy
theorem FlatR.kvAtP{T:TypeId}{B base:Nat}{C:Nat→Prop}{w:World}{g m cap:Nat}{es:List FE}{cs:List (List Value)}{kvs:List Value}(h:FlatR T tailP B base C w (.slice (some ⟨g,0,none⟩) m cap) es cs kvs)(j:Nat)(hj:j<es.length)(hj2:j<kvs.length):
 w.cell? ⟨g,j*16+14,none⟩=some kvs[j]:=by
 have hlc:=h.lc
 rw[h.at j 14 hj (by omega) (by omega)]
 obtain ⟨a1,a2,a3,tl,e1,e2,⟨p,x,u,rfl⟩, -⟩:=h.ent j hj (by omega) hj2
 rw[e1];rfl
theorem add_first{B base go S bn:Nat}{C:Nat→Prop}{w w1 w1x w5:World}{v v5 r1 r2:Value}{es:List FE}{cs:List (List Value)}{kvs:List Value}{f:NF}{kf:List NF}{e:List Value}{nc:List Value}
 (hF:FlatR 119 tailP B base C w1 v es cs kvs) (hb1:Below w.heap.size w w1) (hO:Box 116 go [v,r1,r2] w1) (hN:Box 25 bn nc w1) (hbn:w.heap.size≤bn) (hS:S=bn+1) (hS1:S≤w1.heap.size) (hBg:B≤go) (hgb:go<base) (hbw:base≤w.heap.size) (hC: ∀b,C b→base≤b∧b<w.heap.size)
 (h01:Below w1.heap.size w1 w1x) (ho:w5.ownsRow base 119 16 v5 (es.length+1) (cs.flatten++e)) (hg:w1x.grownBy w5 v.ownBlock) (hblk: ∀b,v5.ownBlock=some b→v.ownBlock=some b∨w1x.heap.size≤b)
 (hE:FlatE tailP w1 B ⟨f,kf,[]⟩ e (.slice none 0 0)):
 w5.cell? ⟨go,0,none⟩=some v∧w5.frozen? ⟨go,0,none⟩=false∧((∃(cs':List (List Value)) (kvs':List Value),FlatR 119 tailP B base (Cr C S (w5.setCell ⟨go,0,none⟩ v5)) (w5.setCell ⟨go,0,none⟩ v5) v5 (es++[⟨f,kf,[]⟩]) cs' kvs')∧Kp (fun b=>C b∨b=go) w (w5.setCell ⟨go,0,none⟩ v5)∧
  Box 116 go [v5,r1,r2] (w5.setCell ⟨go,0,none⟩ v5)∧Box 25 bn nc (w5.setCell ⟨go,0,none⟩ v5)∧S≤(w5.setCell ⟨go,0,none⟩ v5).heap.size):=by
 subst hS
 have hs1:=hb1.size
 have hs01:=h01.size
 have hsg:=hg.size
 have hsz:(w5.setCell ⟨go,0,none⟩ v5).heap.size=w5.heap.size:=by simp[World.setCell]
 obtain ⟨h1,h2⟩:=FlatR.snoc (C':=Cr C (bn+1) w5) hF h01 ho hg hblk hE (by omega) (fun b hb=>by have:=(hC b hb).1;omega) (fun b hb=> .inl hb) (fun b hb hb2=> .inr ⟨by omega,hb2⟩)
 have hgC: ∀W, ¬Cr C (bn+1) W go:=fun W hc=>hc.elim (fun h=>by have:=(hC go h).1;omega) fun h=>by omega
 have hO5:=hO.kp h2 (hgC w5)
 have hk:=Kp.setIn w5 go 0 v5
 have hnC: ¬Cr C (bn+1) w5 bn:=fun hc=>hc.elim (fun h=>by have:=(hC bn h).2;omega) fun h=>by omega
 refine ⟨hO5.cell 0 _ rfl,hO5.frozen 0,⟨_,_,(h1.kp hk (fun b hb=>by subst hb;exact ⟨hgC w5,hBg⟩) (by omega)).weaken fun b hb=>hb.mono (by rw[hsz];exact Nat.le_refl _)⟩,?_,hO5.setCell 0 v5,(hN.kp h2 hnC).kp hk (by omega),by rw[hsz];omega⟩
 exact ((((Kp.of (C:=C) hb1).low h2 (by omega)).wk fun b hb=>Or.inl hb).trans (hk.wk fun b hb=>Or.inr hb))
theorem p_addN: ∀(n:Nat) (t:NT n) (vs:List Value) (B base go:Nat) (C:Nat→Prop) (w:World) (v r1 r2:Value) (es:List FE) (cs:List (List Value)) (kvs:List Value) (path:ByteArray) (parent:Nat),NodeV w (· < B) n t vs→B≤go→go<base→base≤w.heap.size→
 FlatR 119 tailP B base C w v es cs kvs→(∀b,C b→base≤b∧b<w.heap.size)→Box 116 go [v,r1,r2] w→es.length+ntCount n t≤64→ntBytes n t≤65536→path.size+n*70000≤1000000000→parent≤64→
 Calls Tryz.prog 44 #[.pointer (some ⟨go,0,none⟩), .agg vs.toArray, .string path, .int .i64 (parent:Int)] w fun e w'=> ∃(v':Value) (cs':List (List Value)) (kvs':List Value),e= .returned (.int .i64 (es.length:Int))∧FlatR 119 tailP B base (Cr C w.heap.size w') w' v' (es++fl n t es.length) cs' kvs'∧Kp (fun b=>C b∨b=go) w w'∧Box 116 go [v',r1,r2] w'
 |0,_,_,_,_,_,_,_,_,_,_,_,_,_,_,_,h,_,_,_,_,_,_,_,_,_,_=>h.elim
 |n+1,(f,kids),vs,B,base,go,C,w,v,r1,r2,es,cs,kvs,path,parent,h,hBg,hgb,hbw,hfr,hC,hgo,hcnt,hz,hp,hpa=>by
  obtain ⟨i0,hi,hz0,hz1,hz2⟩:=info_parts info_entry
  obtain ⟨i1,hi',hy0,hy1,hy2⟩:=info_parts info_int
  obtain ⟨ka,kc,a,c,rfl,hrow,hk⟩:=h.parts
  obtain ⟨-, -, -,z4, -⟩:=nf_bounds hz
  have hcnt1:ntCount (n+1) (f,kids)≤64:=by omega
  have hkl:=kids_len hcnt1
  obtain ⟨kv0,sv0,kcs0,hE1,hE2,hE3,hE4,hE5⟩:=h
  have hE1':(Value.slice ka kids.length kc)=kv0∧(Value.slice a f.streams.length c)=sv0:=by
   unfold nfCells at hE1;simp at hE1;exact hE1
  obtain ⟨rfl,rfl⟩:=hE1'
  have HE0:=hQ (show FlatE tailP w B ⟨f,kids.map (ntF n),[]⟩ (enCells f (.slice ka kids.length kc) (.slice a f.streams.length c) path parent (.slice none 0 0) 0) (.slice none 0 0) from
   ⟨_,_,kcs0,_,enCells_nf _ _ _ _ _ _ _,rfl,⟨_,_,_,rfl⟩,hE2,hE3,by rw[hE4];simp,fun k hk hk'=>by
     rw[List.length_map] at hk
     obtain ⟨x1,x2,x3,x4,x5,x6,q⟩:=(hE5 k hk hk').cellsF
     exact ⟨x1,x2,x3,x4,x5,x6,by rw[List.getElem_map];exact q⟩⟩)
  obtain ⟨va,vc,rfl⟩:=own_slice hfr.own
  have HK:=hQ hk
  have HC:=hQ hC
  have HZ:=hQ hz
  have HCN:=hQ hcnt
  have HFR:=hQ hfr
  have HP:=hQ hp
  have HGO:=hQ hgo
  have IH:=hQ (p_addN n)
  have HB0:=hQ (Box.new (ty:=25) w (nfCells f (.slice ka kids.length kc) (.slice a f.streams.length c)))
  have hb1:=below_alloc1 w (.cells (nfCells f (.slice ka kids.length kc) (.slice a f.streams.length c)).toArray 25)
  have hesl:es.length≤64:=by omega
  have HSZ1:=hQ (show (w.alloc (.cells (nfCells f (.slice ka kids.length kc) (.slice a f.streams.length c)).toArray 25)).heap.size=w.heap.size+1 from alloc_size _ _)
  clear hrow hk hC hz hcnt hcnt1 hfr hE1 hE2 hE3 hE4 hE5 hp hgo
  unfold nfCells at HB0 hb1 HSZ1 ⊢
  go_enter Tryz.func44,Tryz.ntmps44
  go_upto_region 1 with (fail)
  have hboxA:Box 25 w.heap.size (nfCells f (.slice ka kids.length kc) (.slice a f.streams.length c)) _:=HB0.out
  have hboxO:=HGO.out.step hb1
  have hfr1:=HFR.out.kp (Kp.of (C:=fun _=>False) hb1) (fun b hb=>hb.elim) (by omega)
  have HE1:=hQ (HE0.out.below (hb1.mono (by omega)))
  generalize w.alloc _=w1 at*
  obtain ⟨k0,k1,k2,k3,k4,k5,k6,k7,k8,k9,k10,k11⟩:=hboxA.all
  have o0:=hboxO.cell 0 _ rfl
  have hsz1:w1.heap.size=w.heap.size+1:=HSZ1.out
  have HBA:=hQ hboxA
  have HBO:=hQ hboxO
  have HF1:=hQ hfr1
  have hal:=fun o=>below_alloc1 w1 o
  have o0A:=fun o=>((hal o).cell (World.block_lt_of_cell? _ _ o0)).trans o0
  have HS1:=hQ hsz1
  have HAD1:=hQ (fun o=>below_drew (below_alloc1 w1 o))
  have HAD2:=hQ (fun o=>(below_drew (Below.refl w1.heap.size w1)).trans ((below_alloc1 w1.drew o).mono (below_drew (Below.refl w1.heap.size w1)).size))
  clear hboxA hboxO hfr1 hsz1 HB0 HSZ1 HFR HGO HE0
  go_upto_region 2 with (fail)
  go_cut [] (fun wx=> ∃(v':Value) (cs':List (List Value)) (kvs':List Value),FlatR 119 tailP B base (Cr C (w.heap.size+1) wx) wx v' (es++[⟨f,kids.map (ntF n),[]⟩]) cs' kvs'∧Kp (fun b=>C b∨b=go) w wx∧Box 116 go [v',r1,r2] wx∧Box 25 w.heap.size (nfCells f (.slice ka kids.length kc) (.slice a f.streams.length c)) wx∧w.heap.size+1≤wx.heap.size)
  case first=>
   have HBW:=hQ (show base≤w1.heap.size by have:=HS1.out;omega)
   go_region_law (
    refine step_append_blk rfl _ _ 113 rfl base 119 i0 (.agg entryZ) 16 208 Tryz.underlying113 hi hz0 hz1 hz2 rfl (by decide) (.slice va es.length vc) es.length cs.flatten rfl ?_ ⟨w1.heap.size,0,none⟩ 1 1 (enCells f (.slice ka kids.length kc) (.slice a f.streams.length c) path parent (.slice none 0 0) 0) rfl rfl ?_ ?_ ?_ ?_ ?_ ?_
    ·first|exact own_below' HF1.out.own (HAD1.out _)|exact own_below' HF1.out.own (HAD2.out _)
    ·exact World.news_of_block (fr:=(0,0)) (heap_alloc_last _ _)
    ·exact en_cell _ _ _ _ _ _ _ _ _ _ _ _ _
    ·unfold maxLen;omega
    ·omega
    ·first|exact Nat.le_trans HBW.out (HAD1.out _).size|exact Nat.le_trans HBW.out (HAD2.out _).size
    intro v5 w5 hown5 hgrow5 hblk5
    obtain ⟨a5,c5,rfl⟩:=own_slice hown5
    have HAF:=hQ (show _∧_ from (by first
     |exact add_first HF1.out hb1 HBO.out HBA.out (Nat.le_refl _) rfl (by have:=HS1.out;omega) hBg hgb hbw HC.out (HAD1.out _) hown5 hgrow5 hblk5 HE1.out
     |exact add_first HF1.out hb1 HBO.out HBA.out (Nat.le_refl _) rfl (by have:=HS1.out;omega) hBg hgb hbw HC.out (HAD2.out _) hown5 hgrow5 hblk5 HE1.out))
    have q0:=HAF.out.1
    have f0:=HAF.out.2.1
    clear hown5 hgrow5 hblk5)
   all_goals
    go_wp2_with fail
    go_meet
    case rel=>
     obtain ⟨⟨cs',kvs',z1⟩,z2,z3,z4,z5⟩:=HAF.out.2.2
     exact ⟨_,cs',kvs',z1,z2,z3,z4,z5⟩
  case rest=>
   clear k0 k1 k2 k3 k4 k5 k6 k7 k8 k9 k10 k11 o0 hal o0A
   obtain ⟨v1,cs1,kvs1,hfr1,hkp1,hbO1,hbN1,hS1⟩:=hcut
   have c10:=hbN1.cell 10 _ rfl
   have HF5:=hQ (show FlatR 119 tailP B base (Cr C (w.heap.size+1) wc) wc v1 (es++⟨f,kids.map (ntF n),(flSt n kids es.length 0).1⟩::(flSt n kids es.length 0).2) cs1 kvs1 from by rw[flSt_zero];exact hfr1)
   clear hfr1 HBA HBO HF1 HE1 HAD1 HAD2
   go_wp2_with fail
   clear c10
   go_loopw [35] (fun i wr=> ∃(k:Nat) (v':Value) (cs':List (List Value)) (kvs':List Value),k≤kids.length∧i= .int .i64 k∧FlatR 119 tailP B base (Cr C (w.heap.size+1) wr) wr v' (es++⟨f,kids.map (ntF n),(flSt n kids es.length k).1⟩::(flSt n kids es.length k).2) cs' kvs'∧
    Kp (fun b=>C b∨b=go) w wr∧Box 116 go [v',r1,r2] wr∧w.heap.size+1≤wr.heap.size) (fun i _=>kids.length-(intOf i).toNat)
   case atStart=>exact ⟨0,v1,cs1,kvs1,Nat.zero_le _,rfl,HF5.out,hkp1,hbO1,hS1⟩
   case round=>
    obtain ⟨k,vk,cs',kvs',hk,rfl,hfr,hkp,hbO,hsz⟩:=hrel
    clear HF5 hkp1 hbO1 hS1 hbN1
    by_cases hlt:k<kids.length
    ·have hki:(k:Int)<kids.length:=by omega
     have HSU:=hQ (flSt_succ n kids es.length k hlt)
     have HLS:=hQ (flSt_len n kids es.length k (by omega))
     have hcntk:(flSt n kids es.length k).2.length+ntCount n kids[k]≤(flSt n kids es.length kids.length).2.length:=by
      have h1: ∀j,k+1≤j→j≤kids.length→(flSt n kids es.length (k+1)).2.length≤(flSt n kids es.length j).2.length:=fun j=>by
       induction j with
       |zero=>intro h;omega
       |succ j ih=>
        intro h1 h2
        rcases Nat.lt_or_ge k j with h|h
        ·refine Nat.le_trans (ih (by omega) (by omega)) ?_
         rw[flSt_succ n kids es.length j h2,List.length_append];omega
        ·rw[show j=k by omega];exact Nat.le_refl _
      have h2:=h1 kids.length hlt (Nat.le_refl _)
      rw[HSU.out,List.length_append,fl_len] at h2
      exact h2
     have hall:es.length+1+(flSt n kids es.length kids.length).2.length≤64:=by
      have h1:=fl_len (n+1) (f,kids) es.length
      rw[fl_def,List.length_cons] at h1
      have:=HCN.out
      omega
     generalize flSt n kids es.length k=st at*
     obtain ⟨s1,s2⟩:=st
     dsimp only at HSU HLS hcntk hfr
     have hml:es.length+1+s2.length+ntCount n kids[k]≤64:=by omega
     have hes':(es++(⟨f,kids.map (ntF n),s1⟩:FE)::s2).length=es.length+1+s2.length:=by rw[List.length_append,List.length_cons];omega
     have hCB: ∀(W:World) (b:Nat),Cr C (w.heap.size+1) W b→base≤b:=fun W b hb=>hb.elim (fun h1=>(HC.out b h1).1) fun h2=>by omega
     have hBw':Below B w wr:=hkp.below (fun b hb=>hb.elim (fun h=>by have:=(HC.out b h).1;omega) fun h=>by omega) (by omega)
     obtain ⟨b,off,kcells,rfl,hbB,hnode0,hcell⟩:=HK.out k hlt
     have hnode:=hnode0.below hBw'
     obtain ⟨a',a2',l',c',l2',c2',rfl⟩:=hnode.cellsF
     have hcellr: ∀j x,(nfCells (ntF n kids[k]) (.slice a' l' c') (.slice a2' l2' c2'))[j]? =some x→wr.cell? ⟨b,off+k*12+j,none⟩=some x:=fun j x hx=>(hBw'.cell hbB).trans (hcell j x hx)
     have hnm:=name_le_bytes n kids[k]
     have HZZ:=hQ (Nat.le_trans (kid_bytes (f:=f) hlt) HZ.out)
     have hnmz:((ntF n kids[k]).name.size:Int)≤65536:=by have:=HZZ.out;omega
     have hpz:(path.size:Int)≤1000000000:=by have:=HP.out;omega
     have HCALL:=hQ (show ∀(W7:World) (bl:ByteArray),Below wr.heap.size wr W7→bl.size≤path.size+65537→
      Calls Tryz.prog 44 #[.pointer (some ⟨go,0,none⟩), .agg (nfCells (ntF n kids[k]) (.slice a' l' c') (.slice a2' l2' c2')).toArray, .string bl, .int .i64 (es.length:Int)] W7 fun e w8=>e= .returned (.int .i64 ((es.length+1+s2.length:Nat):Int))∧ ∃(v8:Value) (cs8:List (List Value)) (kvs8:List Value),FlatR 119 tailP B base (Cr C (w.heap.size+1) w8) w8 v8 (es++(⟨f,kids.map (ntF n),s1⟩:FE)::(s2++fl n kids[k] (es.length+1+s2.length))) cs8 kvs8∧Kp (fun b=>C b∨b=go) w w8∧Box 116 go [v8,r1,r2] w8∧w.heap.size+1≤w8.heap.size from by
      intro W7 bl hb7 hbl
      have hn7:=hnode.below (hb7.mono (by omega))
      have hpl:bl.size+n*70000≤1000000000:=by have:=HP.out;omega
      have hs7:=hb7.size
      have hf7:=(hfr.kp (Kp.of (C:=fun _=>False) hb7) (fun b hb=>hb.elim) (by omega)).weaken (C':=Cr C (w.heap.size+1) W7) (fun b hb=>hb.mono hs7)
      refine (IH.out kids[k] _ B base go (Cr C (w.heap.size+1) W7) W7 vk r1 r2 _ cs' kvs' bl es.length hn7 hBg hgb (by omega) hf7 (fun b hb=>⟨hCB W7 b hb,hb.elim (fun h1=>by have:=(HC.out b h1).2;omega) fun h2=>h2.2⟩) (hbO.step hb7) (by rw[hes'];exact hml) HZZ.out hpl hesl).mono ?_
      rintro e w8 ⟨v8,cs8,kvs8,rfl,hfr8,hk8,hbO8⟩
      rw[hes'] at hfr8
      refine ⟨by rw[hes'],v8,cs8,kvs8,?_,?_,hbO8,by have:=hk8.size;omega⟩
      ·have h9:=hfr8.weaken (fun b hb=>Cr.cr hk8.size (by omega) hb)
       rw[List.append_assoc,List.cons_append] at h9
       exact h9
      ·exact ((hkp.far (Kp.of (C:=fun _=>False) hb7) fun b hb=>hb.elim).far hk8 fun b hb=>hb.elim (fun h=>h.elim (fun h1=> .inl (.inl h1)) fun h2=> .inr (by omega)) fun h=> .inl (.inr h)))
     have HHN:=hQ hes'
     clear hfr hkp hbO hnode hnode0 hcell hcntk hall hnm hBw' hes' hml
     generalize hfk:ntF n kids[k]=f' at*
     have HFK:=hQ hfk
     clear hfk
     have hnm2:f'.name.size≤65536:=by omega
     go_upto_region 6 with (first
      |(refine wpList_load_at rfl _ _ rfl b (off+k*12) (nfCells f' (.slice a' l' c') (.slice a2' l2' c2')) _ rfl hcellr Tryz.underlying25 rfl node_size ?_)
      |(refine wpList_store_row rfl _ _ _ rfl wr.heap.size _ nodeZ (nfCells f' (.slice a' l' c') (.slice a2' l2' c2')).toArray rfl rfl (heap_alloc_last _ _) 12 node_size rfl rfl (node_one _ _ _ _ _ _ _) ?_)
      |go_in)
     have hst:=box_store 25 wr nodeZ (nfCells f' (.slice a' l' c') (.slice a2' l2' c2'))
     unfold nodeZ at hst
     generalize World.setRow _ _ _=w7 at hst ⊢
     obtain ⟨hboxK,hb7⟩:=hst
     have d0:=hboxK.cell 0 _ rfl
     have hbU:=hboxK
     unfold nfCells at hbU
     clear hcellr
     unfold nfCells at HCALL
     obtain ⟨pb,hpb⟩: ∃pb:Bool,path.toList.isEmpty=pb:=⟨_,rfl⟩
     have HBL0:=hQ (show f'.name.size≤path.size+65537 by omega)
     have HBL1:=hQ (show (path++(⟨#[47]⟩:ByteArray)++f'.name).size≤path.size+65537 by
      rw[ByteArray.size_append,ByteArray.size_append]
      show path.size+1+f'.name.size≤_
      omega)
     go_upto_if 42 with (fail)
     go_cut [12] (fun bl wx=>(∃s:ByteArray,bl= .string s∧s.size≤path.size+65537)∧wx=w7)
     case first=>
      cases pb
      ·go_wp2_with fail
       go_meet
       case rel=>exact ⟨⟨_,rfl,HBL1.out⟩,rfl⟩
      ·go_wp2_with fail
       go_meet
       case rel=>exact ⟨⟨_,rfl,HBL0.out⟩,rfl⟩
     case rest=>
      obtain ⟨⟨bl,rfl,hbl⟩,rfl⟩:=hcut
      clear d0
      go_wp2_with (first
       |(refine wpList_load_row rfl _ _ rfl wr.heap.size _ _ _ rfl hbU Tryz.underlying25 rfl 12 node_size rfl ?_)
       |fail)
      refine (HCALL.out _ bl hb7 hbl).mono ?_
      rintro e w8 ⟨rfl,v8,cs8,kvs8,hfr8,hk8,hbO8,hs8⟩
      clear hbU hboxK hb7 HCALL
      have hlen8:es.length<(es++(⟨f,kids.map (ntF n),s1⟩:FE)::(s2++fl n kids[k] (es.length+1+s2.length))).length:=by rw[List.length_append,List.length_cons];omega
      obtain ⟨g,cap,rfl,hg1,hg2⟩:=hfr8.own.form (by omega)
      have hlk:=hfr8.lk
      have hik:es.length<kvs8.length:=by omega
      have q14:=hfr8.kvAtP es.length hlen8 hik
      have hints:=hfr8.ints es.length hlen8 hik
      rw[mid_get es _ (⟨f,kids.map (ntF n),s1⟩:FE) hlen8] at hints
      have HFR:=hQ hfr8
      generalize hm8:(es++(⟨f,kids.map (ntF n),s1⟩:FE)::(s2++fl n kids[k] (es.length+1+s2.length))).length=M8 at*
      have hi8:(es.length:Int)<M8:=by omega
      have HHM:=hQ hm8
      generalize hkv:kvs8[es.length]=kvi at*
      have HKV:=hQ hkv
      have o0:=hbO8.cell 0 _ rfl
      have HINTS:=hQ hints
      have HBO:=hQ hbO8
      have HK8:=hQ hk8
      have HS8:=hQ hs8
      clear hfr8 hints hkv hbO8 hk8 hs8 hlen8 hlk hm8
      generalize hM:es.length+1+s2.length=M at*
      have HM:=hQ hM
      clear hM
      have hal:=fun o=>below_alloc1 w8 o
      have o0A:=fun o=>((hal o).cell (World.block_lt_of_cell? _ _ o0)).trans o0
      have q14A:=fun o=>((hal o).cell (World.block_lt_of_cell? _ _ q14)).trans q14
      have HAD1:=hQ (fun o=>below_drew (below_alloc1 w8 o))
      have HAD2:=hQ (fun o=>(below_drew (Below.refl w8.heap.size w8)).trans ((below_alloc1 w8.drew o).mono (below_drew (Below.refl w8.heap.size w8)).size))
      have HBB:=hQ (show base≤w8.heap.size by have:=HS8.out;omega)
      have HCB:=hQ hCB
      have HNG:=hQ (show ∀W, ¬Cr C (w.heap.size+1) W go from fun W hc=>by have:=hCB W go hc;omega)
      clear hal hCB hpb
      go_upto_region 10 with (fail)
      go_region_law (
       refine step_append_blk rfl _ _ 34 rfl base 3 i1 (.int .i64 0) 1 8 Tryz.underlying34 hi' hy0 hy1 hy2 rfl (by decide) kvi s1.length (intsV s1) rfl ?_ ⟨w8.heap.size,0,none⟩ 1 1 [.int .i64 (M:Int)] rfl rfl ?_ ?_ ?_ ?_ ?_ ?_
       ·first|exact own_below' HINTS.out (HAD1.out _)|exact own_below' HINTS.out (HAD2.out _)
       ·exact World.news_of_block (fr:=(0,0)) (heap_alloc_last _ _)
       ·intro u hu;rw[List.mem_singleton] at hu;rw[hu];rfl
       ·unfold maxLen;have:=HLS.out;omega
       ·have:=HLS.out;omega
       ·first|exact Nat.le_trans HBB.out (HAD1.out _).size|exact Nat.le_trans HBB.out (HAD2.out _).size
       intro kv' w6 hown6 hgrow6 hblk6
       obtain ⟨ka',kc',rfl⟩:=own_slice hown6
       have HST:=hQ (show _∧_ from (by first
        |exact FlatR.step (x:=M) HFR.out hik HKV.out 2 (by omega) tailP_set (by have:=HBB.out;omega) (fun b hb=>by have:=HCB.out _ b hb;omega) HS8.out (HAD1.out _) hown6 hgrow6 hblk6
        |exact FlatR.step (x:=M) HFR.out hik HKV.out 2 (by omega) tailP_set (by have:=HBB.out;omega) (fun b hb=>by have:=HCB.out _ b hb;omega) HS8.out (HAD2.out _) hown6 hgrow6 hblk6))
       have q6:w6.cell? ⟨g,es.length*16+14,none⟩=some kvi:=HST.out.1.trans q14
       have f6:w6.frozen? ⟨g,es.length*16+14,none⟩=false:=HST.out.2.1
       have o06:w6.cell? ⟨go,0,none⟩=some (.slice (some ⟨g,0,none⟩) M8 cap):=(hgrow6.cell (a:=⟨go,0,none⟩) (by first|exact ((HAD1.out _).cell (World.block_lt_of_cell? _ _ o0)).trans o0|exact ((HAD2.out _).cell (World.block_lt_of_cell? _ _ o0)).trans o0) (fun e=>by have:=(HINTS.out.lt go e.symm).1;omega))
       clear hown6 hgrow6 hblk6)
      all_goals
       have HF9:=hQ HST.out.2.2.1
       have hk9:=HST.out.2.2.2
       have HK9:=hQ (HK8.out.far hk9 (fun b hb=>hb.elim (fun h=>Or.inl (Or.inl h)) fun h2=>Or.inr (by omega)))
       have HB9:=hQ (HBO.out.kp hk9 (HNG.out _))
       have HS9:=hQ (Nat.le_trans HS8.out hk9.size)
       clear hk9 q6 f6 o06
       go_wp2
       go_roundw
       case rel=>
        obtain ⟨cs9,kvs9,h9⟩:=HF9.out
        exact ⟨k+1,_,cs9,kvs9,by omega,by go_num,by rw[HSU.out];exact h9,HK9.out,HB9.out,HS9.out⟩
       case measure=>simp[intOf];omega
    ·have hki:(kids.length:Int)≤k:=by omega
     have hk':k=kids.length:=by omega
     have h9:=hfr.weaken (C':=Cr C w.heap.size wr) (fun b hb=>hb.elim (fun h1=>Or.inl h1) fun h2=>Or.inr ⟨by omega,h2.2⟩)
     rw[hk', ←fl_def] at h9
     have HR:=hQ h9
     have HKP:=hQ hkp
     have HBO:=hQ hbO
     clear h9 hfr hkp hbO hk'
     go_wp2
     go_ret
     exact ⟨_,cs',kvs',rfl,HR.out,HKP.out,HBO.out⟩
end Go.Proofs.YtbeccmkegckjjaaGreatDoor
end
