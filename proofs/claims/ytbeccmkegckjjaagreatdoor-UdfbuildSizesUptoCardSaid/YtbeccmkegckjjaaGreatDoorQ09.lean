/- Law 43, UdfbuildSizes: a part of the proof. -/
import Derived.Test.YtbeccmkegckjjaaGreatDoorQ07
import Derived.StillTailTactics
import Derived.Test.YtbeccmkegckjjaaGreatDoorQ08
set_option linter.unusedVariables false
set_option linter.ambiguousOpen false
set_option linter.unusedSimpArgs false
section
namespace Go.Proofs.YtbeccmkegckjjaaGreatDoor
open Go.RowKit
set_option maxRecDepth 1000000
set_option maxHeartbeats 1600000
structure Kp (C:Nat→Prop) (w w':World):Prop where
 os:w'.os=w.os
 tape:w'.tape=w.tape
 output:w'.output=w.output
 size:w.heap.size≤w'.heap.size
 block: ∀b,b<w.heap.size→ ¬C b→w'.heap[b]? =w.heap[b]?
theorem Kp.refl(C:Nat→Prop)(w:World):Kp C w w:=⟨rfl,rfl,rfl,Nat.le_refl _,fun _ _ _=>rfl⟩
theorem Kp.trans{C:Nat→Prop}{w w' w'':World}(h:Kp C w w')(k:Kp C w' w''):Kp C w w'':=
 ⟨k.os.trans h.os,k.tape.trans h.tape,k.output.trans h.output,Nat.le_trans h.size k.size,fun b hb hc=>(k.block b (Nat.lt_of_lt_of_le hb h.size) hc).trans (h.block b hb hc)⟩
theorem Kp.of{C:Nat→Prop}{w w':World}(h:Below w.heap.size w w'):Kp C w w':=⟨h.os,h.tape,h.output,h.size,fun b hb _=>h.block b hb⟩
theorem Kp.below{C:Nat→Prop}{w w':World}{B:Nat}(h:Kp C w w')(hC: ∀b,C b→B≤b)(hB:B≤w.heap.size):Below B w w':=
 ⟨h.os,h.tape,h.output,h.size,fun b hb=>h.block b (Nat.lt_of_lt_of_le hb hB) fun hc=>absurd hb (Nat.not_lt.2 (hC b hc))⟩
theorem Box.kp{ty:TypeId}{g:Nat}{vs:List Value}{C:Nat→Prop}{wx w':World}(h:Box ty g vs wx)(hb:Kp C wx w')(hg: ¬C g):Box ty g vs w':=(hb.block g h.lt hg).trans h
def nodeZ:Array Value:= #[.string ⟨#[]⟩, .int .i64 0, .string ⟨#[]⟩, .string ⟨#[]⟩, .int .i64 0, .int .i64 0, .int .i64 0, .int .i64 0, .int .i64 0, .int .i64 0, .slice none 0 0, .slice none 0 0]
theorem node_one(f:NF)(a a2:Option Addr)(l c l2 c2:Nat):(nfCells f (.slice a l c) (.slice a2 l2 c2)).toArray.all (·.oneCell')=true:=by
 rw[nfCells,List.all_toArray]
 rfl
theorem box_store(ty:TypeId)(w:World)(z:Array Value)(vs:List Value):Box ty w.heap.size vs ((w.alloc (.cells z ty)).setRow w.heap.size vs.toArray)∧Below w.heap.size w ((w.alloc (.cells z ty)).setRow w.heap.size vs.toArray):=
 ⟨setRow_heap _ _ _ _ _ _ (heap_alloc_last w _),below_setRow (below_alloc1 w _) (Nat.le_refl _) _⟩
def ntWalk{σ:Type}(step:NF × List NF→Nat→σ→σ × Bool):(n:Nat)→NT n→Nat→σ→σ × Bool
 |0,_,_,s=>(s,true)
 |n+1,t,l,s=>
  if (step (t.1,t.2.map (ntF n)) l s).2 then t.2.foldl (fun y k=>if y.2 then ntWalk step n k (l+1) y.1 else y) ((step (t.1,t.2.map (ntF n)) l s).1,true) else ((step (t.1,t.2.map (ntF n)) l s).1,false)
theorem foldl_stop{α σ:Type}(f:α→σ→σ × Bool): ∀(l:List α) (s:σ),l.foldl (fun y k=>if y.2 then f k y.1 else y) (s,false)=(s,false)
 |[],_=>rfl
 |_::l,s=>by rw[List.foldl_cons];exact foldl_stop f l s
theorem foldl_take{α σ:Type}(f:σ→α→σ)(l:List α)(s:σ)(k:Nat)(h:k<l.length):(l.take (k+1)).foldl f s=f ((l.take k).foldl f s) l[k]:=by
 rw[List.take_succ_eq_append_getElem h,List.foldl_append];rfl
theorem fold_end{α σ:Type}(f:α→σ→σ × Bool)(l:List α)(s:σ × Bool)(k:Nat)(h:k<l.length)(hs:(f l[k] ((l.take k).foldl (fun y k=>if y.2 then f k y.1 else y) s).1).2=false)(ht:((l.take k).foldl (fun y k=>if y.2 then f k y.1 else y) s).2=true):
 l.foldl (fun y k=>if y.2 then f k y.1 else y) s=f l[k] ((l.take k).foldl (fun y k=>if y.2 then f k y.1 else y) s).1:=by
 conv=>lhs;rw[←List.take_append_drop (k+1) l,List.foldl_append,foldl_take _ _ _ _ h]
 rw[if_pos ht]
 generalize f l[k] _=x at*
 obtain ⟨a,b⟩:=x
 simp only at hs
 subst hs
 exact foldl_stop f _ a
theorem kid_countG{n:Nat}{f:NF}{kids:List (NT n)}{k:Nat}(hk:k<kids.length):ntCount n kids[k]≤ntCount (n+1) (f,kids):=by
 have h1:=sum_take (ntCount n) kids k hk
 have h2:=sum_take_le (ntCount n) kids (k+1)
 show _≤1+(kids.map (ntCount n)).sum
 omega
def VisOKC{σ:Type}(step:NF × List NF→Nat→σ→σ × Bool)(St:σ→World→Prop)(B D:Nat)(C:Nat→Prop)(g:Nat):Prop:=
 ∀(n:Nat) (t:NT (n+1)) (vs:List Value) (w:World) (path:ByteArray) (l:Nat) (s:σ),NodeV w (· < B) (n+1) t vs→D≤w.heap.size→St s w→l≤100→path.size+(100-l)*100000≤100000000→ntBytes (n+1) t≤40000→
  Calls Tryz.prog 207 #[.agg vs.toArray, .string path, .int .i64 (l:Int), .pointer (some ⟨g,0,none⟩)] w fun e w'=>e= .returned (.bool (step (t.1,t.2.map (ntF n)) l s).2)∧St (step (t.1,t.2.map (ntF n)) l s).1 w'∧Kp C w w'
theorem p_walkC{σ:Type}(step:NF × List NF→Nat→σ→σ × Bool)(St:σ→World→Prop)(B D:Nat)(C:Nat→Prop)(g:Nat)(hC: ∀b,C b→B≤b∧b<D)(hBD:B≤D)
 (hst: ∀s w w',St s w→Below w.heap.size w w'→St s w') (hf:VisOKC step St B D C g):
 ∀(n:Nat) (t:NT n) (vs:List Value) (w:World) (path:ByteArray) (l:Nat) (s:σ),NodeV w (· < B) n t vs→D≤w.heap.size→St s w→l+n≤100→path.size+(100-l)*100000≤100000000→ntBytes n t≤40000→
  Calls Tryz.prog 106 #[.agg vs.toArray, .string path, .int .i64 (l:Int), .func (.func 207) #[] #[.pointer (some ⟨g,0,none⟩)]] w fun e w'=>e= .returned (.bool (ntWalk step n t l s).2)∧St (ntWalk step n t l s).1 w'∧Kp C w w'
 |0,_,_,_,_,_,_,h,_,_,_,_,_=>h.elim
 |n+1,(fld,kids),vs,w,path,l,s,h,hD,hs,hl,hp,hz=>by
  have h0:=h
  obtain ⟨kv,sv,kcs,rfl,_,hkv,hlen,hk⟩:=h
  obtain ⟨a,c,rfl,hrow⟩:=hkv
  have hB:B≤w.heap.size:=Nat.le_trans hBD hD
  have hb1:=below_alloc1 w (.cells (nfCells fld (.slice a kcs.length c) sv).toArray 25)
  have HV:=hQ (hf n (fld,kids) _ _ path l s (h0.below (hb1.mono hB)) (Nat.le_trans hD hb1.size) (hst s w _ hs hb1) (by omega) hp hz)
  have HB0:=hQ (Box.new (ty:=25) w (nfCells fld (.slice a kcs.length c) sv))
  have hg: ¬C w.heap.size:=fun hc=>by have:=hC _ hc;omega
  have HW:=hQ (show ntWalk step (n+1) (fld,kids) l s=if (step (fld,kids.map (ntF n)) l s).2 then kids.foldl (fun y k=>if y.2 then ntWalk step n k (l+1) y.1 else y) ((step (fld,kids.map (ntF n)) l s).1,true) else ((step (fld,kids.map (ntF n)) l s).1,false) from rfl)
  have IH:=hQ (p_walkC step St B D C g hC hBD hst hf n)
  have HROW:=hQ hrow
  have HK:=hQ hk
  have HL:=hQ hlen
  have HZ:=hQ hz
  have HST:=hQ hst
  have hll:(l:Int)≤100:=by omega
  have hkl:kids.length≤40000:=Nat.le_trans (len_le_sum (ntBytes n) (fun t=>by have:=name_le_bytes n t;omega) kids) (Nat.le_trans (Nat.le_add_left _ _) hz)
  clear h0 hk hrow hz hf hst hs hlen
  unfold nfCells
  dsimp only at HV HW
  generalize hx:step (fld,kids.map (ntF n)) l s=x at*
  clear hx
  obtain ⟨s1,ok⟩:=x
  go_enter Tryz.func106,Tryz.ntmps106
  cases ok
  ·go_wp2_with fail
   refine HV.out.mono ?_
   rintro e w1 ⟨rfl,hs1,hk1⟩
   go_wp2
   go_ret
   exact ⟨by rw[HW.out];rfl,by rw[HW.out];exact hs1,(Kp.of hb1).trans hk1⟩
  ·have HWT:=hQ (HW.out.trans (if_pos rfl))
   clear HW
   go_wp2_with fail
   refine HV.out.mono ?_
   rintro e w1 ⟨rfl,hs1,hk1⟩
   have hbox1:=HB0.out.kp hk1 hg
   have hkw1:=(Kp.of hb1).trans hk1
   have c10:=hbox1.cell 10 _ rfl
   go_wp2_with fail
   go_loopw [20] (fun i wr=> ∃k:Nat,k≤kids.length∧i= .int .i64 k∧Kp C w wr∧Box 25 w.heap.size (nfCells fld (.slice a kcs.length c) sv) wr∧St ((kids.take k).foldl (fun y k=>if y.2 then ntWalk step n k (l+1) y.1 else y) (s1,true)).1 wr∧((kids.take k).foldl (fun y k=>if y.2 then ntWalk step n k (l+1) y.1 else y) (s1,true)).2=true) (fun i _=>kids.length-(intOf i).toNat)
   case atStart=>exact ⟨0,Nat.zero_le _,rfl,hkw1,hbox1,hs1,rfl⟩
   case round=>
    obtain ⟨k,hk,rfl,hkp,hbox,hsk,hok⟩:=hrel
    by_cases hlt:k<kids.length
    ·have hlt':k<kcs.length:=by rw[HL.out];exact hlt
     have hi:(k:Int)<kcs.length:=by omega
     obtain ⟨b,off,rfl,hbB,hcell⟩:=HROW.out k hlt'
     have hkB:=hkp.below (fun b hb=>(hC b hb).1) hB
     have hnode:=(HK.out k hlt hlt').below hkB
     have hcell': ∀j x,kcs[k][j]? =some x→wr.cell? ⟨b,off+k*12+j,none⟩=some x:=fun j x hx=>(hkB.cell hbB).trans (hcell j x hx)
     obtain ⟨a',a2',l',c',l2',c2',hcs⟩:=hnode.cellsF
     rw[hcs] at hcell' hnode
     have HND:=hQ hnode
     clear hcell hcs
     have hnb:=Nat.le_trans (kid_bytes (f:=fld) hlt) HZ.out
     have hnm:=name_le_bytes n kids[k]
     have HSTEP:=hQ (show ∀x:σ × Bool,((kids.take k).foldl (fun y k=>if y.2 then ntWalk step n k (l+1) y.1 else y) (s1,true)).2=true→ntWalk step n kids[k] (l+1) ((kids.take k).foldl (fun y k=>if y.2 then ntWalk step n k (l+1) y.1 else y) (s1,true)).1=x→(kids.take (k+1)).foldl (fun y k=>if y.2 then ntWalk step n k (l+1) y.1 else y) (s1,true)=x from fun x h1 h2=>by
      rw[foldl_take _ _ _ _ hlt,if_pos h1,h2])
     have HEND:=hQ (show ∀x:σ × Bool,((kids.take k).foldl (fun y k=>if y.2 then ntWalk step n k (l+1) y.1 else y) (s1,true)).2=true→ntWalk step n kids[k] (l+1) ((kids.take k).foldl (fun y k=>if y.2 then ntWalk step n k (l+1) y.1 else y) (s1,true)).1=x→x.2=false→kids.foldl (fun y k=>if y.2 then ntWalk step n k (l+1) y.1 else y) (s1,true)=x from fun x h1 h2 h3=>
      (fold_end (fun kk y=>ntWalk step n kk (l+1) y) kids (s1,true) k hlt (by show (ntWalk step n kids[k] (l+1) _).2=false;rw[h2];exact h3) h1).trans h2)
     have HKID:=hQ (fun (W:World) (p':ByteArray) (hW:Below wr.heap.size wr W) (hp':p'.size≤path.size+(ntF n kids[k]).name.size+1)=>IH.out kids[k] _ W p' (l+1) _ (hnode.below (hW.mono (Nat.le_trans (Nat.le_trans hBD hD) hkp.size))) (Nat.le_trans (Nat.le_trans hD hkp.size) hW.size) (HST.out _ _ _ hsk hW) (by omega) (by omega) hnb)
     have HNM:=hQ hnm
     have HNB:=hQ hnb
     clear hnode hnb hnm
     generalize ntF n kids[k]=f' at*
     generalize hfo:(kids.take k).foldl (fun y k=>if y.2 then ntWalk step n k (l+1) y.1 else y) (s1,true)=fo at*
     obtain ⟨sk,okk⟩:=fo
     simp only at hok hsk HKID HSTEP HEND
     subst hok
     generalize hxx:ntWalk step n kids[k] (l+1) sk=xx at*
     obtain ⟨s',okx⟩:=xx
     have HSTEP2:=hQ (HSTEP.out _ rfl rfl)
     have HEND2:=hQ (fun h=>HEND.out (s',okx) rfl rfl h)
     simp only at HKID HEND2
     clear HSTEP HEND hxx hfo
     go_wp2_with (first
      |(refine wpList_load_at rfl _ _ rfl b (off+k*12) (nfCells f' (.slice a' l' c') (.slice a2' l2' c2')) _ rfl hcell' Tryz.underlying25 rfl node_size ?_)
      |(refine wpList_store_row rfl _ _ _ rfl wr.heap.size _ nodeZ (nfCells f' (.slice a' l' c') (.slice a2' l2' c2')).toArray rfl rfl (heap_alloc_last _ _) 12 node_size rfl rfl (node_one _ _ _ _ _ _ _) ?_)
      |go_in)
     have hst2:=box_store 25 wr nodeZ (nfCells f' (.slice a' l' c') (.slice a2' l2' c2'))
     unfold nodeZ at hst2
     have hlp:(l:Int)+1≤101:=by omega
     generalize World.setRow _ _ _=w2 at hst2 ⊢
     obtain ⟨hbox2,hbel2⟩:=hst2
     have hkp2:=hkp.trans (Kp.of hbel2)
     have hboxw:=hbox.step hbel2
     obtain ⟨k0,k1,k2,k3,k4,k5,k6,k7,k8,k9,k10,k11⟩:=hbox2.all
     have HBL:=hQ (fun W:World=>p_below path f'.name (l+1) W (by omega) (by have:=HNM.out;have:=HNB.out;omega))
     have hcast:((l+1:Nat):Int)=IntKind.i64.wrap ((l:Int)+1):=by rw[IntKind.wrap_i64];omega
     rw[hcast] at HBL HKID
     clear hcast
     go_region_with (first
      |(go_at_call 208;refine (HBL.out _).mono ?_;rintro e w5 ⟨⟨pp,rfl,hpp⟩,rfl⟩)
      |(go_at_call 106;refine (HKID.out _ pp (by first|exact hbel2|exact below_drew hbel2|exact below_drewN hbel2 _) hpp).mono ?_;rintro e w6 ⟨rfl,hs6,hk6⟩))
     all_goals
      have hkpf:=hkp2.trans ((show Kp C w2 w6 from by first|exact hk6|exact (Kp.of (below_drew (Below.refl _ _))).trans hk6|exact (Kp.of (below_drewN (Below.refl _ _) _)).trans hk6))
      have hboxf:=(show Box 25 w.heap.size (nfCells fld (.slice (some ⟨b,off,none⟩) kcs.length c) sv) w6 from by first|exact hboxw.kp hk6 hg|exact (hboxw.step (below_drew (Below.refl _ _))).kp hk6 hg|exact (hboxw.step (below_drewN (Below.refl _ _) _)).kp hk6 hg)
      clear k0 k1 k2 k3 k4 k5 k6 k7 k8 k9 k10 k11 hk6 hbox2 hboxw hcell'
      cases okx
      ·go_wp2
       go_ret
       exact ⟨by rw[HWT.out,HEND2.out (by first|rfl|trivial)];rfl,by rw[HWT.out,HEND2.out (by first|rfl|trivial)];exact hs6,hkpf⟩
      ·go_wp2
       go_roundw
       case rel=>exact ⟨k+1,by omega,by go_num,hkpf,hboxf,by rw[HSTEP2.out];exact hs6,by rw[HSTEP2.out]⟩
       case measure=>simp[intOf];omega
    ·have hk':k=kids.length:=by omega
     have hl':=HL.out
     have hke:kids.take k=kids:=by rw[hk'];exact List.take_length
     rw[hke] at hsk hok
     have hi:(kcs.length:Int)≤k:=by omega
     go_wp2
     go_ret
     exact ⟨by rw[HWT.out,hok];rfl,by rw[HWT.out];exact hsk,hkp⟩
def VisOKK{σ:Type}(step:NF × List NF→Nat→σ→σ × Bool)(St:σ→World→Prop)(B D:Nat)(C:Nat→Prop)(g g2:Nat):Prop:=
 ∀(n:Nat) (t:NT (n+1)) (vs:List Value) (w:World) (path:ByteArray) (l:Nat) (s:σ),NodeV w (· < B) (n+1) t vs→D≤w.heap.size→St s w→l≤100→path.size+(100-l)*100000≤100000000→ntBytes (n+1) t≤40000→1≤l→ntCount (n+1) t≤64→
  Calls Tryz.prog 107 #[.agg vs.toArray, .string path, .int .i64 (l:Int), .pointer (some ⟨g,0,none⟩), .pointer (some ⟨g2,0,none⟩)] w fun e w'=>e= .returned (.bool (step (t.1,t.2.map (ntF n)) l s).2)∧St (step (t.1,t.2.map (ntF n)) l s).1 w'∧Kp C w w'
theorem p_walkK{σ:Type}(step:NF × List NF→Nat→σ→σ × Bool)(St:σ→World→Prop)(B D:Nat)(C:Nat→Prop)(g g2:Nat)(hC: ∀b,C b→B≤b∧b<D)(hBD:B≤D)
 (hst: ∀s w w',St s w→Below w.heap.size w w'→St s w') (hf:VisOKK step St B D C g g2):
 ∀(n:Nat) (t:NT n) (vs:List Value) (w:World) (path:ByteArray) (l:Nat) (s:σ),NodeV w (· < B) n t vs→D≤w.heap.size→St s w→l+n≤100→path.size+(100-l)*100000≤100000000→ntBytes n t≤40000→1≤l→ntCount n t≤64→
  Calls Tryz.prog 106 #[.agg vs.toArray, .string path, .int .i64 (l:Int), .func (.func 107) #[] #[.pointer (some ⟨g,0,none⟩), .pointer (some ⟨g2,0,none⟩)]] w fun e w'=>e= .returned (.bool (ntWalk step n t l s).2)∧St (ntWalk step n t l s).1 w'∧Kp C w w'
 |0,_,_,_,_,_,_,h,_,_,_,_,_,_,_=>h.elim
 |n+1,(fld,kids),vs,w,path,l,s,h,hD,hs,hl,hp,hz,hl1,hcn=>by
  have h0:=h
  obtain ⟨kv,sv,kcs,rfl,_,hkv,hlen,hk⟩:=h
  obtain ⟨a,c,rfl,hrow⟩:=hkv
  have hB:B≤w.heap.size:=Nat.le_trans hBD hD
  have hb1:=below_alloc1 w (.cells (nfCells fld (.slice a kcs.length c) sv).toArray 25)
  have HV:=hQ (hf n (fld,kids) _ _ path l s (h0.below (hb1.mono hB)) (Nat.le_trans hD hb1.size) (hst s w _ hs hb1) (by omega) hp hz hl1 hcn)
  have HB0:=hQ (Box.new (ty:=25) w (nfCells fld (.slice a kcs.length c) sv))
  have hg: ¬C w.heap.size:=fun hc=>by have:=hC _ hc;omega
  have HW:=hQ (show ntWalk step (n+1) (fld,kids) l s=if (step (fld,kids.map (ntF n)) l s).2 then kids.foldl (fun y k=>if y.2 then ntWalk step n k (l+1) y.1 else y) ((step (fld,kids.map (ntF n)) l s).1,true) else ((step (fld,kids.map (ntF n)) l s).1,false) from rfl)
  have IH:=hQ (p_walkK step St B D C g g2 hC hBD hst hf n)
  have HROW:=hQ hrow
  have HK:=hQ hk
  have HL:=hQ hlen
  have HZ:=hQ hz
  have HCN:=hQ hcn
  have HST:=hQ hst
  have hll:(l:Int)≤100:=by omega
  have hkl:kids.length≤40000:=Nat.le_trans (len_le_sum (ntBytes n) (fun t=>by have:=name_le_bytes n t;omega) kids) (Nat.le_trans (Nat.le_add_left _ _) hz)
  clear h0 hk hrow hz hf hst hs hlen hcn
  unfold nfCells
  dsimp only at HV HW
  generalize hx:step (fld,kids.map (ntF n)) l s=x at*
  clear hx
  obtain ⟨s1,ok⟩:=x
  go_enter Tryz.func106,Tryz.ntmps106
  cases ok
  ·go_wp2_with fail
   refine HV.out.mono ?_
   rintro e w1 ⟨rfl,hs1,hk1⟩
   go_wp2
   go_ret
   exact ⟨by rw[HW.out];rfl,by rw[HW.out];exact hs1,(Kp.of hb1).trans hk1⟩
  ·have HWT:=hQ (HW.out.trans (if_pos rfl))
   clear HW
   go_wp2_with fail
   refine HV.out.mono ?_
   rintro e w1 ⟨rfl,hs1,hk1⟩
   have hbox1:=HB0.out.kp hk1 hg
   have hkw1:=(Kp.of hb1).trans hk1
   have c10:=hbox1.cell 10 _ rfl
   go_wp2_with fail
   go_loopw [20] (fun i wr=> ∃k:Nat,k≤kids.length∧i= .int .i64 k∧Kp C w wr∧Box 25 w.heap.size (nfCells fld (.slice a kcs.length c) sv) wr∧St ((kids.take k).foldl (fun y k=>if y.2 then ntWalk step n k (l+1) y.1 else y) (s1,true)).1 wr∧((kids.take k).foldl (fun y k=>if y.2 then ntWalk step n k (l+1) y.1 else y) (s1,true)).2=true) (fun i _=>kids.length-(intOf i).toNat)
   case atStart=>exact ⟨0,Nat.zero_le _,rfl,hkw1,hbox1,hs1,rfl⟩
   case round=>
    obtain ⟨k,hk,rfl,hkp,hbox,hsk,hok⟩:=hrel
    by_cases hlt:k<kids.length
    ·have hlt':k<kcs.length:=by rw[HL.out];exact hlt
     have hi:(k:Int)<kcs.length:=by omega
     obtain ⟨b,off,rfl,hbB,hcell⟩:=HROW.out k hlt'
     have hkB:=hkp.below (fun b hb=>(hC b hb).1) hB
     have hnode:=(HK.out k hlt hlt').below hkB
     have hcell': ∀j x,kcs[k][j]? =some x→wr.cell? ⟨b,off+k*12+j,none⟩=some x:=fun j x hx=>(hkB.cell hbB).trans (hcell j x hx)
     obtain ⟨a',a2',l',c',l2',c2',hcs⟩:=hnode.cellsF
     rw[hcs] at hcell' hnode
     have HND:=hQ hnode
     clear hcell hcs
     have hnb:=Nat.le_trans (kid_bytes (f:=fld) hlt) HZ.out
     have hnm:=name_le_bytes n kids[k]
     have hcnk:=Nat.le_trans (kid_countG (f:=fld) hlt) HCN.out
     have HSTEP:=hQ (show ∀x:σ × Bool,((kids.take k).foldl (fun y k=>if y.2 then ntWalk step n k (l+1) y.1 else y) (s1,true)).2=true→ntWalk step n kids[k] (l+1) ((kids.take k).foldl (fun y k=>if y.2 then ntWalk step n k (l+1) y.1 else y) (s1,true)).1=x→(kids.take (k+1)).foldl (fun y k=>if y.2 then ntWalk step n k (l+1) y.1 else y) (s1,true)=x from fun x h1 h2=>by
      rw[foldl_take _ _ _ _ hlt,if_pos h1,h2])
     have HEND:=hQ (show ∀x:σ × Bool,((kids.take k).foldl (fun y k=>if y.2 then ntWalk step n k (l+1) y.1 else y) (s1,true)).2=true→ntWalk step n kids[k] (l+1) ((kids.take k).foldl (fun y k=>if y.2 then ntWalk step n k (l+1) y.1 else y) (s1,true)).1=x→x.2=false→kids.foldl (fun y k=>if y.2 then ntWalk step n k (l+1) y.1 else y) (s1,true)=x from fun x h1 h2 h3=>
      (fold_end (fun kk y=>ntWalk step n kk (l+1) y) kids (s1,true) k hlt (by show (ntWalk step n kids[k] (l+1) _).2=false;rw[h2];exact h3) h1).trans h2)
     have HKID:=hQ (fun (W:World) (p':ByteArray) (hW:Below wr.heap.size wr W) (hp':p'.size≤path.size+(ntF n kids[k]).name.size+1)=>IH.out kids[k] _ W p' (l+1) _ (hnode.below (hW.mono (Nat.le_trans (Nat.le_trans hBD hD) hkp.size))) (Nat.le_trans (Nat.le_trans hD hkp.size) hW.size) (HST.out _ _ _ hsk hW) (by omega) (by omega) hnb (by omega) hcnk)
     have HNM:=hQ hnm
     have HNB:=hQ hnb
     clear hnode hnb hnm hcnk
     generalize ntF n kids[k]=f' at*
     generalize hfo:(kids.take k).foldl (fun y k=>if y.2 then ntWalk step n k (l+1) y.1 else y) (s1,true)=fo at*
     obtain ⟨sk,okk⟩:=fo
     simp only at hok hsk HKID HSTEP HEND
     subst hok
     generalize hxx:ntWalk step n kids[k] (l+1) sk=xx at*
     obtain ⟨s',okx⟩:=xx
     have HSTEP2:=hQ (HSTEP.out _ rfl rfl)
     have HEND2:=hQ (fun h=>HEND.out (s',okx) rfl rfl h)
     simp only at HKID HEND2
     clear HSTEP HEND hxx hfo
     go_wp2_with (first
      |(refine wpList_load_at rfl _ _ rfl b (off+k*12) (nfCells f' (.slice a' l' c') (.slice a2' l2' c2')) _ rfl hcell' Tryz.underlying25 rfl node_size ?_)
      |(refine wpList_store_row rfl _ _ _ rfl wr.heap.size _ nodeZ (nfCells f' (.slice a' l' c') (.slice a2' l2' c2')).toArray rfl rfl (heap_alloc_last _ _) 12 node_size rfl rfl (node_one _ _ _ _ _ _ _) ?_)
      |go_in)
     have hst2:=box_store 25 wr nodeZ (nfCells f' (.slice a' l' c') (.slice a2' l2' c2'))
     unfold nodeZ at hst2
     have hlp:(l:Int)+1≤101:=by omega
     generalize World.setRow _ _ _=w2 at hst2 ⊢
     obtain ⟨hbox2,hbel2⟩:=hst2
     have hkp2:=hkp.trans (Kp.of hbel2)
     have hboxw:=hbox.step hbel2
     obtain ⟨k0,k1,k2,k3,k4,k5,k6,k7,k8,k9,k10,k11⟩:=hbox2.all
     have HBL:=hQ (fun W:World=>p_below path f'.name (l+1) W (by omega) (by have:=HNM.out;have:=HNB.out;omega))
     have hcast:((l+1:Nat):Int)=IntKind.i64.wrap ((l:Int)+1):=by rw[IntKind.wrap_i64];omega
     rw[hcast] at HBL HKID
     clear hcast
     go_region_with (first
      |(go_at_call 208;refine (HBL.out _).mono ?_;rintro e w5 ⟨⟨pp,rfl,hpp⟩,rfl⟩)
      |(go_at_call 106;refine (HKID.out _ pp (by first|exact hbel2|exact below_drew hbel2|exact below_drewN hbel2 _) hpp).mono ?_;rintro e w6 ⟨rfl,hs6,hk6⟩))
     all_goals
      have hkpf:=hkp2.trans ((show Kp C w2 w6 from by first|exact hk6|exact (Kp.of (below_drew (Below.refl _ _))).trans hk6|exact (Kp.of (below_drewN (Below.refl _ _) _)).trans hk6))
      have hboxf:=(show Box 25 w.heap.size (nfCells fld (.slice (some ⟨b,off,none⟩) kcs.length c) sv) w6 from by first|exact hboxw.kp hk6 hg|exact (hboxw.step (below_drew (Below.refl _ _))).kp hk6 hg|exact (hboxw.step (below_drewN (Below.refl _ _) _)).kp hk6 hg)
      clear k0 k1 k2 k3 k4 k5 k6 k7 k8 k9 k10 k11 hk6 hbox2 hboxw hcell'
      cases okx
      ·go_wp2
       go_ret
       exact ⟨by rw[HWT.out,HEND2.out (by first|rfl|trivial)];rfl,by rw[HWT.out,HEND2.out (by first|rfl|trivial)];exact hs6,hkpf⟩
      ·go_wp2
       go_roundw
       case rel=>exact ⟨k+1,by omega,by go_num,hkpf,hboxf,by rw[HSTEP2.out];exact hs6,by rw[HSTEP2.out]⟩
       case measure=>simp[intOf];omega
    ·have hk':k=kids.length:=by omega
     have hl':=HL.out
     have hke:kids.take k=kids:=by rw[hk'];exact List.take_length
     rw[hke] at hsk hok
     have hi:(kcs.length:Int)≤k:=by omega
     go_wp2
     go_ret
     exact ⟨by rw[HWT.out,hok];rfl,by rw[HWT.out];exact hsk,hkp⟩
end Go.Proofs.YtbeccmkegckjjaaGreatDoor
end
section
namespace Go.Proofs.YtbeccmkegckjjaaGreatDoor
open Go.RowKit
set_option maxRecDepth 1000000
set_option maxHeartbeats 1600000
def ordN(a b:List UInt8):Int:=if Lib.compareBytes a b=0 then 5 else if Lib.compareBytes a b=1 then 1 else 0
def ltB(a b:List UInt8):Bool:=decide (Lib.compareBytes a b<0)
theorem cmp_cases: ∀(a b:List UInt8),Lib.compareBytes a b= -1∨Lib.compareBytes a b=0∨Lib.compareBytes a b=1
 |[],[]=> .inr (.inl rfl)
 |[],_::_=> .inl rfl
 |_::_,[]=> .inr (.inr rfl)
 |a::r,b::r2=>by
  unfold Lib.compareBytes
  split
  ·exact .inl rfl
  ·split
   ·exact .inr (.inr rfl)
   ·exact cmp_cases r r2
theorem ordN_zero(a b:List UInt8):ordN a b=0↔ltB a b=true:=by
 unfold ordN ltB
 rw[decide_eq_true_iff]
 rcases cmp_cases a b with h|h|h <;> rw[h] <;> decide
theorem p_order(a b:ByteArray)(w:World):Calls Tryz.prog 212 #[.string a, .string b] w fun e w'=>e= .returned (.int .i64 (ordN a.data.toList b.data.toList))∧w'=w:=by
 have HC:=hQ (fun W:World=>Tryz.strings_Compare a b W)
 unfold ordN
 rcases cmp_cases a.data.toList b.data.toList with h|h|h
 all_goals
  rw[h] at HC ⊢
  go_enter Tryz.func212,Tryz.ntmps212
  go_wp2_with (go_at_call 289;refine (HC.out _).mono ?_;rintro e w5 ⟨rfl,rfl⟩)
  go_ret
  exact ⟨rfl,rfl⟩
def sortedTo(l:List ByteArray)(k:Nat):Bool:=(List.range (k-1)).all fun j=>ltB (l.getD j ⟨#[]⟩).data.toList (l.getD (j+1) ⟨#[]⟩).data.toList
theorem sortedTo_succ(l:List ByteArray)(k:Nat)(h:1≤k):sortedTo l (k+1)=(sortedTo l k&&ltB (l.getD (k-1) ⟨#[]⟩).data.toList (l.getD k ⟨#[]⟩).data.toList):=by
 unfold sortedTo
 obtain ⟨m,rfl⟩: ∃m,k=m+1:=⟨k-1,by omega⟩
 rw[Nat.add_sub_cancel,Nat.add_sub_cancel,List.range_succ,List.all_append]
 simp
theorem sortedTo_mono(l:List ByteArray)(k m:Nat)(h:k≤m)(hf:sortedTo l k=false):sortedTo l m=false:=by
 unfold sortedTo at*
 rw[Bool.eq_false_iff] at*
 intro hm
 refine hf (List.all_eq_true.2 fun x hx=>List.all_eq_true.1 hm x ?_)
 rw[List.mem_range] at*
 omega
theorem p_rkids(f:NF)(a:Option Addr)(c:Nat)(sv:Value)(l:Nat)(B:Nat)(names:List ByteArray)(w:World)(hB:B≤w.heap.size)(hlen:names.length≤40000)
 (hrow: ∀j,(h:j<names.length)→ ∃b off,a=some ⟨b,off,none⟩∧b<B∧w.cell? ⟨b,off+j*12,none⟩=some (.string names[j])):
 Calls Tryz.prog 115 #[.agg (ruleCells f (.slice a names.length c) sv l).toArray] w fun e w'=> ∃n:Int,e= .returned (.int .i64 n)∧(n=0↔sortedTo names names.length=true)∧Below w.heap.size w w':=by
 have HO:=hQ (fun (x y:ByteArray) (W:World)=>p_order x y W)
 have HROW:=hQ hrow
 have HB0:=hQ (Box.new (ty:=212) w (ruleCells f (.slice a names.length c) sv l))
 have hb1:=below_alloc1 w
 clear hrow
 unfold ruleCells
 go_enter Tryz.func115,Tryz.ntmps115
 go_wp2_with fail
 go_loopw [3] (fun i wr=> ∃k:Nat,1≤k∧k≤max 1 names.length∧i= .int .i64 k∧Below w.heap.size w wr∧Box 212 w.heap.size (ruleCells f (.slice a names.length c) sv l) wr∧sortedTo names k=true) (fun i _=>max 1 names.length-(intOf i).toNat)
 case atStart=>exact ⟨1,Nat.le_refl _,by omega,rfl,hb1 _,HB0.out,rfl⟩
 case round=>
  obtain ⟨k,hk1,hk,rfl,hbw,hbox,hsk⟩:=hrel
  have c10:=hbox.cell 10 _ rfl
  by_cases hlt:k<names.length
  ·have hi:(k:Int)<names.length:=by omega
   have hi1:(k:Int)-1<names.length:=by omega
   obtain ⟨b,off,rfl,hbB,hcell⟩:=HROW.out k hlt
   obtain ⟨b2,off2,hh,hbB2,hcell2⟩:=HROW.out (k-1) (by omega)
   injection hh with hh
   injection hh with hh1 hh2
   subst hh1 hh2
   have d0:=(hbw.cell (Nat.lt_of_lt_of_le hbB hB)).trans hcell
   have d1:=(hbw.cell (Nat.lt_of_lt_of_le hbB hB)).trans hcell2
   have HS:=hQ (show sortedTo names (k+1)=ltB (names[k-1]).data.toList (names[k]).data.toList by
    rw[sortedTo_succ names k hk1,hsk,Bool.true_and,List.getD_eq_getElem?_getD,List.getD_eq_getElem?_getD,List.getElem?_eq_getElem hlt,List.getElem?_eq_getElem (show k-1<names.length by omega)];rfl)
   have HM:=hQ (fun h=>sortedTo_mono names (k+1) names.length hlt h)
   obtain ⟨m,rfl⟩: ∃m,k=m+1:=⟨k-1,by omega⟩
   have hm1:((m+1:Nat):Int)-1=m:=by omega
   simp only[Nat.add_sub_cancel] at d1 HS
   generalize names[m]=x0 at*
   generalize names[m+1]=x1 at*
   clear hcell hcell2
   have HZ:=hQ (ordN_zero x0.data.toList x1.data.toList)
   have HO1:=hQ (fun W:World=>HO.out x0 x1 W)
   generalize ordN x0.data.toList x1.data.toList=on at*
   generalize ltB x0.data.toList x1.data.toList=lt at*
   go_wp2_with fail
   go_quiet (first|(go_at_call 212;exact Calls.quiet_of_same (HO1.out _)))
   cases lt
   ·have hne:on≠0:=fun h=>by have:=HZ.out.1 h;cases this
    have hne':(on != 0)=true:=by rw[bne_iff_ne];exact hne
    have HF:=hQ (HM.out HS.out)
    have HNE:=hQ hne
    clear hne
    go_wp2
    go_ret
    exact ⟨_,rfl,by rw[HF.out];exact ⟨fun h=>absurd h HNE.out,fun h=>by cases h⟩,below_drewN hbw _⟩
   ·have hz:on=0:=HZ.out.2 rfl
    subst hz
    go_wp2
    go_roundw
    case rel=>exact ⟨m+1+1,by omega,by omega,by go_num,below_drewN hbw _,hbox.step (below_drewN (Below.refl _ _) _),HS.out⟩
    case measure=>simp[intOf];omega
  ·have hi:(names.length:Int)≤k:=by omega
   have HT:=hQ (show sortedTo names names.length=true by
    by_cases h0:names.length=0
    ·rw[h0];rfl
    ·rw[show names.length=k by omega];exact hsk)
   go_wp2
   go_ret
   exact ⟨_,rfl,by rw[HT.out];decide,hbw⟩
end Go.Proofs.YtbeccmkegckjjaaGreatDoor
end
section
namespace Go.Proofs.YtbeccmkegckjjaaGreatDoor
open Go.RowKit
set_option maxRecDepth 1000000
set_option maxHeartbeats 1600000
noncomputable def namesOK(l:List (ByteArray × ByteArray))(k:Nat):Bool:=(l.take k).all fun s=>nameOK s.1.data.toList
noncomputable def okStreams(f:NF):Bool:=namesOK f.streams f.streams.length&&sortedTo (f.streams.map (·.1)) f.streams.length
theorem namesOK_succ(l:List (ByteArray × ByteArray))(k:Nat)(h:k<l.length):namesOK l (k+1)=(namesOK l k&&nameOK l[k].1.data.toList):=by
 unfold namesOK
 rw[List.take_succ_eq_append_getElem h,List.all_append];simp
theorem namesOK_mono(l:List (ByteArray × ByteArray))(k:Nat)(hf:namesOK l k=false):namesOK l l.length=false:=by
 unfold namesOK at*
 rw[Bool.eq_false_iff] at*
 intro hm
 refine hf (List.all_eq_true.2 fun x hx=>List.all_eq_true.1 hm x ?_)
 rw[List.take_length]
 exact List.mem_of_mem_take hx
theorem str_size:(Tryz.prog.info? 122).map (·.size)=some 2:=by kernel_rfl
theorem str_one(x y:ByteArray):([Value.string x, .string y]:List Value).toArray.all (·.oneCell')=true:=by
 rw[List.all_toArray];rfl
theorem p_rstreams(f:NF)(ka:Option Addr)(kl kc:Nat)(a:Option Addr)(c l B:Nat)(w:World)(hT:Tabs w)(hB:B≤w.heap.size)(hlen:f.streams.length≤40000)(hnz: ∀s∈f.streams,s.1.size≤65536)
 (hrow: ∀j,(h:j<f.streams.length)→ ∃b off,a=some ⟨b,off,none⟩∧b<B∧w.cell? ⟨b,off+j*2,none⟩=some (.string f.streams[j].1)∧w.cell? ⟨b,off+j*2+1,none⟩=some (.string f.streams[j].2)):
 Calls Tryz.prog 114 #[.agg (ruleCells f (.slice ka kl kc) (.slice a f.streams.length c) l).toArray] w fun e w'=> ∃n:Int,e= .returned (.int .i64 n)∧(n=0↔okStreams f=true)∧Below w.heap.size w w':=by
 have HO:=hQ (fun (x y:ByteArray) (W:World)=>p_order x y W)
 have HN:=hQ (fun (x:ByteArray) (W:World) (hW:Tabs W) (h:x.size≤65536)=>p_name x W hW h)
 have HROW:=hQ hrow
 have HNZ:=hQ hnz
 have HT:=hQ hT
 have hb1:=below_alloc1 w
 have HOK:=hQ (show okStreams f=(namesOK f.streams f.streams.length&&sortedTo (f.streams.map (·.1)) f.streams.length) from rfl)
 clear hrow hnz hT
 have HB0:=hQ (Box.new (ty:=212) w (ruleCells f (.slice ka kl kc) (.slice a f.streams.length c) l))
 unfold ruleCells
 go_enter Tryz.func114,Tryz.ntmps114
 go_wp2_with fail
 go_loopw [10] (fun i wr=> ∃k:Nat,k≤f.streams.length∧i= .int .i64 k∧Below w.heap.size w wr∧Box 212 w.heap.size (ruleCells f (.slice ka kl kc) (.slice a f.streams.length c) l) wr∧namesOK f.streams k=true∧sortedTo (f.streams.map (·.1)) k=true) (fun i _=>f.streams.length-(intOf i).toNat)
 case atStart=>exact ⟨0,Nat.zero_le _,rfl,hb1 _,HB0.out,rfl,rfl⟩
 case round=>
  obtain ⟨k,hk,rfl,hbw,hbox,hnk,hsk⟩:=hrel
  have c11:=hbox.cell 11 _ rfl
  by_cases hlt:k<f.streams.length
  ·have hi:(k:Int)<f.streams.length:=by omega
   obtain ⟨b,off,rfl,hbB,hcell,hcell2⟩:=HROW.out k hlt
   have d0:=(hbw.cell (Nat.lt_of_lt_of_le hbB hB)).trans hcell
   have d1:=(hbw.cell (Nat.lt_of_lt_of_le hbB hB)).trans hcell2
   have hz:=HNZ.out f.streams[k] (List.getElem_mem hlt)
   have HNS:=hQ (namesOK_succ f.streams k hlt)
   have HNM:=hQ (namesOK_mono f.streams (k+1))
   have hsl:(f.streams.map (·.1)).length=f.streams.length:=by simp
   have HSM:=hQ (fun h=>sortedTo_mono (f.streams.map (·.1)) (k+1) f.streams.length hlt h)
   have hT1:Tabs wr:=HT.out.step hbw
   have HPREV:=hQ (show 0<k→ ∃p0:ByteArray,wr.cell? ⟨b,off+(k-1)*2,none⟩=some (.string p0)∧sortedTo (f.streams.map (·.1)) (k+1)=ltB p0.data.toList f.streams[k].1.data.toList from fun h0=>by
    obtain ⟨b2,off2,hh,hbB2,hc2,_⟩:=HROW.out (k-1) (by omega)
    injection hh with hh
    injection hh with hh1 hh2
    subst hh1 hh2
    refine ⟨_,(hbw.cell (Nat.lt_of_lt_of_le hbB hB)).trans hc2,?_⟩
    rw[sortedTo_succ _ k h0,hsk,Bool.true_and,List.getD_eq_getElem?_getD,List.getD_eq_getElem?_getD,List.getElem?_eq_getElem (show k-1<(f.streams.map (·.1)).length by rw[hsl];omega),List.getElem?_eq_getElem (show k<(f.streams.map (·.1)).length by rw[hsl];exact hlt)]
    simp)
   rw[hnk,Bool.true_and] at HNS
   clear hcell hcell2 hsl
   generalize f.streams[k]=st at*
   obtain ⟨s1,s2⟩:=st
   dsimp only at d0 d1 hz HNS HPREV
   go_upto_region 4 with (first
    |(refine wpList_store_row rfl _ _ _ rfl wr.heap.size _ #[.string ⟨#[]⟩, .string ⟨#[]⟩] [.string s1, .string s2].toArray rfl rfl (heap_alloc_last _ _) 2 str_size rfl rfl (str_one _ _) ?_)
    |go_in)
   have hst2:=box_store 122 wr #[.string ⟨#[]⟩, .string ⟨#[]⟩] [.string s1, .string s2]
   generalize World.setRow _ _ _=w2 at hst2 ⊢
   obtain ⟨hbox2,hbel2⟩:=hst2
   have hbw2:=hbw.trans (hbel2.mono hbw.size)
   have hboxw:=hbox.step hbel2
   have q0:=hbox2.cell 0 _ rfl
   go_wp2_with fail
   refine (HN.out s1 _ (hT1.step hbel2) hz).mono ?_
   rintro e w3 ⟨rfl,hb3⟩
   have hbw3:=hbw2.trans (hb3.mono hbw2.size)
   have hboxw3:=hboxw.step hb3
   have r0:=(hbox2.step hb3).cell 0 _ rfl
   have e11:=hboxw3.cell 11 _ rfl
   have hbel3:=hbel2.trans (hb3.mono hbel2.size)
   clear q0 c11
   generalize nameOK s1.data.toList=nm at*
   cases nm
   ·have HF:=hQ (show okStreams f=false by rw[HOK.out,HNM.out HNS.out,Bool.false_and])
    go_wp2
    go_ret
    exact ⟨_,rfl,by rw[HF.out];decide,hbw3⟩
   ·by_cases hk0:k=0
    ·have hk0':((k:Int))≤0:=by omega
     have HS1:=hQ (show sortedTo (f.streams.map (·.1)) (k+1)=true by rw[hk0];rfl)
     clear HPREV HSM HNM
     go_wp2
     go_roundw
     case rel=>exact ⟨k+1,by omega,by go_num,hbw3,hboxw3,HNS.out,HS1.out⟩
     case measure=>simp[intOf];omega
    ·have hk1:(0:Int)<k:=by omega
     obtain ⟨p0,hp0,hs0⟩:=HPREV.out (by omega)
     have d2:=(hbel3.cell (World.block_lt_of_cell? _ _ hp0)).trans hp0
     obtain ⟨m,rfl⟩: ∃m,k=m+1:=⟨k-1,by omega⟩
     have hm1:((m+1:Nat):Int)-1=m:=by omega
     simp only[Nat.add_sub_cancel] at d2
     have hi2:(m:Int)<f.streams.length:=by omega
     have HZ:=hQ (ordN_zero p0.data.toList s1.data.toList)
     have HO1:=hQ (fun W:World=>HO.out p0 s1 W)
     have HS0:=hQ hs0
     clear hs0 hp0 d0 d1
     generalize ordN p0.data.toList s1.data.toList=on at*
     generalize ltB p0.data.toList s1.data.toList=lt at*
     go_wp2_with fail
     go_quiet (first|(go_at_call 212;exact Calls.quiet_of_same (HO1.out _)))
     cases lt
     ·have hne:on≠0:=fun h=>by have:=HZ.out.1 h;cases this
      have hne':(on != 0)=true:=by rw[bne_iff_ne];exact hne
      have HF:=hQ (show okStreams f=false by rw[HOK.out,HSM.out HS0.out,Bool.and_false])
      have HNE:=hQ hne
      clear hne
      go_wp2
      go_ret
      exact ⟨_,rfl,by rw[HF.out];exact ⟨fun h=>absurd h HNE.out,fun h=>by cases h⟩,below_drewN hbw3 _⟩
     ·have hz0:on=0:=HZ.out.2 rfl
      subst hz0
      clear HSM HNM
      go_wp2
      go_roundw
      case rel=>exact ⟨m+1+1,by omega,by go_num,below_drewN hbw3 _,hboxw3.step (below_drewN (Below.refl _ _) _),HNS.out,HS0.out⟩
      case measure=>simp[intOf];omega
  ·have hi:(f.streams.length:Int)≤k:=by omega
   have HT:=hQ (show okStreams f=true by rw[HOK.out,show f.streams.length=k by omega,hnk,hsk];rfl)
   go_wp2
   go_ret
   exact ⟨_,rfl,by rw[HT.out];decide,hbw⟩
end Go.Proofs.YtbeccmkegckjjaaGreatDoor
end
