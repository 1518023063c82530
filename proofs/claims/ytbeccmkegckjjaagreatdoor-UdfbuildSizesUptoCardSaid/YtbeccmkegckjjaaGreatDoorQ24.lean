/- Law 43, UdfbuildSizes: a part of the proof. -/
import Derived.Test.YtbeccmkegckjjaaGreatDoorQ23
import Derived.Test.YtbeccmkegckjjaaGreatDoorQ13
import Derived.Test.YtbeccmkegckjjaaGreatDoorQ22
set_option linter.unusedVariables false
set_option linter.ambiguousOpen false
set_option linter.unusedSimpArgs false
section
namespace Go.Proofs.YtbeccmkegckjjaaGreatDoor
open Go.RowKit
set_option maxRecDepth 1000000
set_option maxHeartbeats 3200000
theorem rule_size:(Tryz.prog.info? 212).map (·.size)=some 13:=by kernel_rfl
def ruleZ:Array Value:= #[.string ⟨#[]⟩, .int .i64 0, .string ⟨#[]⟩, .string ⟨#[]⟩, .int .i64 0, .int .i64 0, .int .i64 0, .int .i64 0, .int .i64 0, .int .i64 0, .slice none 0 0, .slice none 0 0, .int .i64 0]
theorem rule_one(f:NF)(a a2:Option Addr)(l c l2 c2 lv:Nat):(ruleCells f (.slice a l c) (.slice a2 l2 c2) lv).toArray.all (·.oneCell')=true:=by
 rw[List.all_toArray];rfl
theorem Box.allR{g:Nat}{f:NF}{kv sv:Value}{l:Nat}{wx:World}(h:Box 212 g (ruleCells f kv sv l) wx):
 wx.cell? ⟨g,0,none⟩=some (.string f.name)∧wx.cell? ⟨g,1,none⟩=some (.int .i64 f.kind)∧wx.cell? ⟨g,2,none⟩=some (.string f.data)∧wx.cell? ⟨g,3,none⟩=some (.string f.target)∧
 wx.cell? ⟨g,4,none⟩=some (.int .i64 f.mode)∧wx.cell? ⟨g,5,none⟩=some (.int .i64 f.uid)∧wx.cell? ⟨g,6,none⟩=some (.int .i64 f.gid)∧wx.cell? ⟨g,7,none⟩=some (.int .i64 f.time)∧
 wx.cell? ⟨g,8,none⟩=some (.int .i64 f.weight)∧wx.cell? ⟨g,9,none⟩=some (.int .i64 f.hidden)∧wx.cell? ⟨g,10,none⟩=some kv∧wx.cell? ⟨g,11,none⟩=some sv∧wx.cell? ⟨g,12,none⟩=some (.int .i64 (l:Int)):=
 ⟨h.cell 0 _ rfl,h.cell 1 _ rfl,h.cell 2 _ rfl,h.cell 3 _ rfl,h.cell 4 _ rfl,h.cell 5 _ rfl,h.cell 6 _ rfl,h.cell 7 _ rfl,h.cell 8 _ rfl,h.cell 9 _ rfl,h.cell 10 _ rfl,h.cell 11 _ rfl,h.cell 12 _ rfl⟩
theorem Kp.weaken{C C':Nat→Prop}{w w':World}(h: ∀b,C b→C' b)(k:Kp C w w'):Kp C' w w':=⟨k.os,k.tape,k.output,k.size,fun b hb hn=>k.block b hb fun hc=>hn (h b hc)⟩
theorem Kp.setAt(C:Nat→Prop)(w:World)(g:Nat)(v:Value)(h:C g):Kp C w (w.setCell ⟨g,0,none⟩ v):=(Kp.setCell w g v).weaken fun b hb=>by rw[hb];exact h
def passTo(L:List Bool)(k:Nat):Bool:=(L.take k).all (· == true)
theorem passTo_succ(L:List Bool)(k:Nat)(h:k<L.length):passTo L (k+1)=(passTo L k&&L[k]):=by
 unfold passTo
 rw[List.take_succ_eq_append_getElem h,List.all_append];simp
theorem passTo_mono(L:List Bool)(k:Nat)(hf:passTo L k=false):passTo L L.length=false:=by
 unfold passTo at*
 rw[Bool.eq_false_iff] at*
 intro hm
 refine hf (List.all_eq_true.2 fun x hx=>List.all_eq_true.1 hm x ?_)
 rw[List.take_length]
 exact List.mem_of_mem_take hx
theorem passTo_eight(a b c d e f g h:Bool):passTo [a,b,c,d,e,f,g,h] 8=(a&&(b&&(c&&(d&&(e&&(f&&(g&&h))))))):=by
 cases a <;> cases b <;> cases c <;> cases d <;> cases e <;> cases f <;> cases g <;> cases h <;> rfl
noncomputable def ckStep(x:NF × List NF)(l:Nat)(_:Bool):Bool × Bool:=(oneOK x.1 (x.2.map (·.name)) l,oneOK x.1 (x.2.map (·.name)) l)
def CkSt(w0:World)(g g2:Nat)(s:Bool)(w:World):Prop:=
 Below w0.heap.size w0 w∧(∃m:Int,w.heap[g]? =some (.cells #[.int .i64 m] 28 (0,0))∧(m=0↔s=true))∧ ∃q:ByteArray,w.heap[g2]? =some (.cells #[.string q] 9 (0,0))
def fnsOf(R:Array Value):List Value:=[.func (.func 108) #[.agg R] #[], .func (.func 109) #[.agg R] #[], .func (.func 110) #[.agg R] #[], .func (.func 111) #[.agg R] #[], .func (.func 112) #[.agg R] #[], .func (.func 113) #[.agg R] #[], .func (.func 114) #[.agg R] #[], .func (.func 115) #[.agg R] #[]]
theorem p_check1(w0:World)(g g2 D:Nat)(hT:TabsM w0)(hg:w0.heap.size≤g∧g<D)(hg2:w0.heap.size≤g2∧g2<D)(hne:g≠g2):
 VisOKK ckStep (CkSt w0 g g2) w0.heap.size D (fun b=>b=g∨b=g2) g g2:=fun n t vs w path l s hN hD hs hl hp hz hl1 hcn=>by
 obtain ⟨f,kids⟩:=t
 obtain ⟨ka,kc,a,c,rfl,hrow,hkr⟩:=hN.parts
 obtain ⟨z1,z2,z3,z4,z5⟩:=nf_bounds (Nat.le_trans hz (by omega))
 have hkl:=kids_len hcn
 have hnl:=kidNames_len n kids
 have hnm:(kids.map (ntF n)).map (·.name)=kidNames n kids:=by rw[List.map_map];rfl
 have hCK:ckStep (f,kids.map (ntF n)) l s=(oneOK f (kidNames n kids) l,oneOK f (kidNames n kids) l):=by unfold ckStep;rw[hnm]
 show Calls _ _ _ _ fun e w'=>e= .returned (.bool (ckStep (f,kids.map (ntF n)) l s).2)∧CkSt w0 g g2 (ckStep (f,kids.map (ntF n)) l s).1 w'∧_
 rw[hCK]
 clear hCK hnm hN
 obtain ⟨hs1,⟨m0,hm0, -⟩,q0,hq0⟩:=hs
 have hBw:w0.heap.size≤w.heap.size:=by omega
 obtain ⟨R,hR⟩: ∃R:Array Value,R=(ruleCells f (.slice ka kids.length kc) (.slice a f.streams.length c) l).toArray:=⟨_,rfl⟩
 have hrow': ∀W,Below w0.heap.size w W→ ∀j,(h:j<f.streams.length)→ ∃b off,a=some ⟨b,off,none⟩∧b<w0.heap.size∧W.cell? ⟨b,off+j*2,none⟩=some (.string f.streams[j].1)∧W.cell? ⟨b,off+j*2+1,none⟩=some (.string f.streams[j].2):=fun W hW j hj=>by
  obtain ⟨b,off,e1,e2,e3,e4⟩:=hrow j hj
  exact ⟨b,off,e1,e2,(hW.cell e2).trans e3,(hW.cell e2).trans e4⟩
 have hkr': ∀W,Below w0.heap.size w W→ ∀j,(h:j<(kidNames n kids).length)→ ∃b off,ka=some ⟨b,off,none⟩∧b<w0.heap.size∧W.cell? ⟨b,off+j*12,none⟩=some (.string (kidNames n kids)[j]):=fun W hW j hj=>by
  obtain ⟨b,off,cs,e1,e2,e3,e4⟩:=hkr j (by omega)
  obtain ⟨_,_,_,_,_,_,rfl⟩:=e3.cellsF
  refine ⟨b,off,e1,e2,(hW.cell e2).trans ?_⟩
  rw[show (kidNames n kids)[j]=(ntF n (kids[j]'(by omega))).name by simp[kidNames]]
  exact e4 0 _ rfl
 have hTW: ∀W,Below w0.heap.size w W→TabsM W:=fun W hW=>hT.step (hs1.trans hW)
 have H0:=hQ (show ∀W,Below w0.heap.size w W→Calls Tryz.prog 108 #[.agg R] W fun e w'=> ∃n':Int,e= .returned (.int .i64 n')∧(n'=0↔okKind f l=true)∧Below W.heap.size W w' from fun W hW=>by
  rw[hR]
  exact p_rkind _ _ _ _ W)
 have H1:=hQ (show ∀W,Below w0.heap.size w W→Calls Tryz.prog 109 #[.agg R] W fun e w'=> ∃n':Int,e= .returned (.int .i64 n')∧(n'=0↔okName f l=true)∧Below W.heap.size W w' from fun W hW=>by
  rw[hR]
  exact p_rname _ _ _ _ W (hTW W hW).1 z1 hl1)
 have H2:=hQ (show ∀W,Below w0.heap.size w W→Calls Tryz.prog 110 #[.agg R] W fun e w'=> ∃n':Int,e= .returned (.int .i64 n')∧(n'=0↔okParts f kids.length=true)∧Below W.heap.size W w' from fun W hW=>by
  rw[hR]
  exact p_rparts _ _ _ _ _ _ _ _ W rfl)
 have H3:=hQ (show ∀W,Below w0.heap.size w W→Calls Tryz.prog 111 #[.agg R] W fun e w'=> ∃n':Int,e= .returned (.int .i64 n')∧(n'=0↔okTgt f=true)∧Below W.heap.size W w' from fun W hW=>by
  rw[hR]
  exact p_rtarget _ _ _ _ W (hTW W hW) z2)
 have H4:=hQ (show ∀W,Below w0.heap.size w W→Calls Tryz.prog 112 #[.agg R] W fun e w'=> ∃n':Int,e= .returned (.int .i64 n')∧(n'=0↔okNums f=true)∧Below W.heap.size W w' from fun W hW=>by
  rw[hR]
  exact p_rnums _ _ _ _ _ _ _ _ W)
 have H5:=hQ (show ∀W,Below w0.heap.size w W→Calls Tryz.prog 113 #[.agg R] W fun e w'=> ∃n':Int,e= .returned (.int .i64 n')∧(n'=0↔okSizes f l=true)∧Below W.heap.size W w' from fun W hW=>by
  rw[hR]
  exact p_rsizes f ka a kids.length kc c l w0.heap.size W (Nat.le_trans hBw hW.size) (by omega) hkl (fun s hs=>by have:=(z5 s hs).2;omega) (hrow' W hW))
 have H6:=hQ (show ∀W,Below w0.heap.size w W→Calls Tryz.prog 114 #[.agg R] W fun e w'=> ∃n':Int,e= .returned (.int .i64 n')∧(n'=0↔okStreams f=true)∧Below W.heap.size W w' from fun W hW=>by
  rw[hR]
  exact p_rstreams f ka kids.length kc a c l w0.heap.size W (hTW W hW).1 (Nat.le_trans hBw hW.size) z4 (fun s hs=>(z5 s hs).1) (hrow' W hW))
 have H7:=hQ (show ∀W,Below w0.heap.size w W→Calls Tryz.prog 115 #[.agg R] W fun e w'=> ∃n':Int,e= .returned (.int .i64 n')∧(n'=0↔sortedTo (kidNames n kids) kids.length=true)∧Below W.heap.size W w' from fun W hW=>by
  rw[hR]
  exact by have h:=p_rkids f ka kc (.slice a f.streams.length c) l w0.heap.size (kidNames n kids) W (Nat.le_trans hBw hW.size) (by omega) (hkr' W hW);rw[hnl] at h;exact h)
 have HOK:=hQ (show oneOK f (kidNames n kids) l=passTo [okKind f l,okName f l,okParts f kids.length,okTgt f,okNums f,okSizes f l,okStreams f,sortedTo (kidNames n kids) kids.length] 8 by rw[passTo_eight];unfold oneOK;rw[hnl])
 generalize oneOK f (kidNames n kids) l=res at*
 generalize okKind f l=o0 at*
 generalize okName f l=o1 at*
 generalize okParts f kids.length=o2 at*
 generalize okTgt f=o3 at*
 generalize okNums f=o4 at*
 generalize okSizes f l=o5 at*
 generalize okStreams f=o6 at*
 generalize sortedTo (kidNames n kids) kids.length=o7 at*
 clear hrow hkr hrow' hkr' hTW hT z1 z2 z3 z4 z5 hz hp hcn hl1 hnl hkl
 have HB0:=hQ (Box.new (ty:=25) w (nfCells f (.slice ka kids.length kc) (.slice a f.streams.length c)))
 have hb1:=below_alloc1 w (.cells (nfCells f (.slice ka kids.length kc) (.slice a f.streams.length c)).toArray 25)
 have hgw:g<w.heap.size:=by omega
 have hgw2:g2<w.heap.size:=by omega
 have HR:=hQ hR
 have HM0:=hQ hm0
 have HQ0:=hQ hq0
 clear hR hm0 hq0
 unfold nfCells at hb1 HB0 ⊢
 go_enter Tryz.func107,Tryz.ntmps107
 go_upto_region 1 with (fail)
 generalize w.alloc _=w1 at*
 have hbox1:Box 25 w.heap.size (nfCells f (.slice ka kids.length kc) (.slice a f.streams.length c)) w1:=HB0.out
 obtain ⟨k0,k1,k2,k3,k4,k5,k6,k7,k8,k9,k10,k11⟩:=hbox1.all
 go_upto_region 2 with (first
  |(refine wpList_store_row rfl _ _ _ rfl w1.heap.size _ ruleZ (ruleCells f (.slice ka kids.length kc) (.slice a f.streams.length c) l).toArray rfl rfl (heap_alloc_last _ _) 13 rule_size rfl rfl (rule_one _ _ _ _ _ _ _ _) ?_)
  |go_in)
 have hst:=box_store 212 w1 ruleZ (ruleCells f (.slice ka kids.length kc) (.slice a f.streams.length c) l)
 unfold ruleZ at hst
 generalize World.setRow _ _ _=w2 at hst ⊢
 obtain ⟨hboxr,hb2⟩:=hst
 clear k0 k1 k2 k3 k4 k5 k6 k7 k8 k9 k10 k11 hbox1 HB0
 obtain ⟨k0,k1,k2,k3,k4,k5,k6,k7,k8,k9,k10,k11,k12⟩:=hboxr.allR
 have hb12:=hb1.trans (hb2.mono hb1.size)
 go_wp2_with fail
 have hR':=HR.out
 unfold ruleCells at hR'
 rw[←hR']
 clear k0 k1 k2 k3 k4 k5 k6 k7 k8 k9 k10 k11 k12 hboxr hb1 hb2 hR' HR
 have HB3:=hQ (Box.new (ty:=213) w2 (fnsOf R))
 have hb3:=below_alloc1 w2 (.cells (fnsOf R).toArray 213)
 unfold fnsOf at HB3 hb3
 have hgF:w.heap.size≤w2.heap.size:=hb12.size
 generalize w2.alloc _=w3 at*
 have hbw3:Below w.heap.size w w3:=hb12.trans (hb3.mono hb12.size)
 have hk3:Kp (fun b=>b=g∨b=g2) w w3:=Kp.of hbw3
 generalize w2.heap.size=gF at*
 go_loopw [33] (fun i wr=> ∃k:Nat,k≤8∧i= .int .i64 k∧Kp (fun b=>b=g∨b=g2) w wr∧Box 213 gF (fnsOf R) wr∧(∃m:Int,wr.heap[g]? =some (.cells #[.int .i64 m] 28 (0,0))∧(k=0∨m=0))∧(∃q:ByteArray,wr.heap[g2]? =some (.cells #[.string q] 9 (0,0)))∧passTo [o0,o1,o2,o3,o4,o5,o6,o7] k=true) (fun i _=>8-(intOf i).toNat)
 case atStart=>
  exact ⟨0,by omega,rfl,hk3,HB3.out,⟨m0,(hbw3.block _ hgw).trans HM0.out, .inl rfl⟩,⟨q0,(hbw3.block _ hgw2).trans HQ0.out⟩,rfl⟩
 case round=>as_aux_lemma=>
  obtain ⟨k,hk,rfl,hkp,hbox,⟨m,hm,hm1⟩,⟨q,hq⟩,hps⟩:=hrel
  clear HM0 HQ0 hk3 HB3 hb3 hb12 hbw3
  have hCB: ∀b,(b=g∨b=g2)→w0.heap.size≤b:=fun b hb=>by omega
  have hWr:Below w0.heap.size w wr:=hkp.below hCB hBw
  have hBr:Below w0.heap.size w0 wr:=hs1.trans hWr
  have hgr:g<wr.heap.size:=Nat.lt_of_lt_of_le hgw hkp.size
  have hgr2:g2<wr.heap.size:=Nat.lt_of_lt_of_le hgw2 hkp.size
  by_cases hlt:k<8
  ·rcases (show k=0∨k=1∨k=2∨k=3∨k=4∨k=5∨k=6∨k=7 by omega) with rfl|rfl|rfl|rfl|rfl|rfl|rfl|rfl
   ·as_aux_lemma=>
    have hc:=hbox.cell 0 _ rfl
    have HCALL:=hQ (H0.out wr hWr)
    have HP1:=hQ (show passTo [o0,o1,o2,o3,o4,o5,o6,o7] (0+1)=o0 by rw[passTo_succ _ 0 (by simp),hps,Bool.true_and];rfl)
    have HPM:=hQ (fun h=>HOK.out.trans (passTo_mono [o0,o1,o2,o3,o4,o5,o6,o7] (0+1) h))
    clear H0 H1 H2 H3 H4 H5 H6 H7 hps hlt hk HOK hm1
    go_wp2_with fail
    refine HCALL.out.mono ?_
    rintro e w5 ⟨n5,rfl,hn5,hb5⟩
    clear HCALL hc
    have hm5:=(hb5.block _ hgr).trans hm
    have hq5:=(hb5.block _ hgr2).trans hq
    have cm5:=cell_of_one hm5
    have fm5:=free_of_one hm5
    have hbox5:=hbox.step hb5
    have hkp5:=hkp.trans (Kp.of hb5)
    go_upto_region 6 with (fail)
    have hm6:=one_setCell (u:= .int .i64 n5) hm5
    have hq6:=(heap_setCell_other w5 ⟨g,0,none⟩ g2 (.int .i64 n5) (fun h=>hne h.symm)).trans hq5
    have hbox6:Box 213 gF (fnsOf R) (w5.setCell ⟨g,0,none⟩ (.int .i64 n5)):=hbox5.kp (Kp.setAt (fun b=>b=g) w5 g _ rfl) (by omega)
    have hkp6:=hkp5.trans (Kp.setAt (fun b=>b=g∨b=g2) w5 g (.int .i64 n5) (.inl rfl))
    clear cm5 fm5 hm5 hq5 hbox5 hkp5 hb5 hbox hkp hm hq
    generalize w5.setCell _ _=w6 at*
    have cm6:=cell_of_one hm6
    have HN5:=hQ hn5
    clear hn5
    by_cases h0:n5=0
    ·subst h0
     have HP2:=hQ (HP1.out.trans (HN5.out.1 rfl))
     clear HN5 HP1 HPM
     go_wp2
     go_roundw
     case rel=>exact ⟨0+1,by omega,by first|rfl|go_num,hkp6,hbox6,⟨0,hm6, .inr rfl⟩,⟨q,hq6⟩,HP2.out⟩
     case measure=>simp[intOf]
    ·have h0':=neB h0
     have HF:=hQ (show res=false from HPM.out (HP1.out.trans (by
      cases ho:o0 with
      |true=>exact absurd (HN5.out.2 ho) h0
      |false=>rfl)))
     have HNE:=hQ h0
     have cq6:=cell_of_one hq6
     have fq6:=free_of_one hq6
     have HB6:=hQ (hs1.trans (hkp6.below hCB hBw))
     clear h0 HN5 HP1 HPM hCB
     go_upto_region 8 with (fail)
     have hq7:=one_setCell (u:= .string path) hq6
     have hm7:=(heap_setCell_other w6 ⟨g2,0,none⟩ g (.string path) hne).trans hm6
     have hkp7:=hkp6.trans (Kp.setAt (fun b=>b=g∨b=g2) w6 g2 (.string path) (.inr rfl))
     generalize w6.setCell _ _=w7 at*
     clear cm6 cq6 fq6
     go_wp2
     go_ret
     exact ⟨ret_bool' (by show false=res;exact HF.out.symm),⟨hs1.trans (hkp7.below (fun b hb=>by omega) hBw),⟨n5,hm7,by rw[HF.out];exact ⟨fun h=>absurd h HNE.out,fun h=>by cases h⟩⟩,⟨path,hq7⟩⟩,hkp7⟩
   ·as_aux_lemma=>
    have hc:=hbox.cell 1 _ rfl
    have HCALL:=hQ (H1.out wr hWr)
    have HP1:=hQ (show passTo [o0,o1,o2,o3,o4,o5,o6,o7] (1+1)=o1 by rw[passTo_succ _ 1 (by simp),hps,Bool.true_and];rfl)
    have HPM:=hQ (fun h=>HOK.out.trans (passTo_mono [o0,o1,o2,o3,o4,o5,o6,o7] (1+1) h))
    clear H0 H1 H2 H3 H4 H5 H6 H7 hps hlt hk HOK hm1
    go_wp2_with fail
    refine HCALL.out.mono ?_
    rintro e w5 ⟨n5,rfl,hn5,hb5⟩
    clear HCALL hc
    have hm5:=(hb5.block _ hgr).trans hm
    have hq5:=(hb5.block _ hgr2).trans hq
    have cm5:=cell_of_one hm5
    have fm5:=free_of_one hm5
    have hbox5:=hbox.step hb5
    have hkp5:=hkp.trans (Kp.of hb5)
    go_upto_region 6 with (fail)
    have hm6:=one_setCell (u:= .int .i64 n5) hm5
    have hq6:=(heap_setCell_other w5 ⟨g,0,none⟩ g2 (.int .i64 n5) (fun h=>hne h.symm)).trans hq5
    have hbox6:Box 213 gF (fnsOf R) (w5.setCell ⟨g,0,none⟩ (.int .i64 n5)):=hbox5.kp (Kp.setAt (fun b=>b=g) w5 g _ rfl) (by omega)
    have hkp6:=hkp5.trans (Kp.setAt (fun b=>b=g∨b=g2) w5 g (.int .i64 n5) (.inl rfl))
    clear cm5 fm5 hm5 hq5 hbox5 hkp5 hb5 hbox hkp hm hq
    generalize w5.setCell _ _=w6 at*
    have cm6:=cell_of_one hm6
    have HN5:=hQ hn5
    clear hn5
    by_cases h0:n5=0
    ·subst h0
     have HP2:=hQ (HP1.out.trans (HN5.out.1 rfl))
     clear HN5 HP1 HPM
     go_wp2
     go_roundw
     case rel=>exact ⟨1+1,by omega,by first|rfl|go_num,hkp6,hbox6,⟨0,hm6, .inr rfl⟩,⟨q,hq6⟩,HP2.out⟩
     case measure=>simp[intOf]
    ·have h0':=neB h0
     have HF:=hQ (show res=false from HPM.out (HP1.out.trans (by
      cases ho:o1 with
      |true=>exact absurd (HN5.out.2 ho) h0
      |false=>rfl)))
     have HNE:=hQ h0
     have cq6:=cell_of_one hq6
     have fq6:=free_of_one hq6
     have HB6:=hQ (hs1.trans (hkp6.below hCB hBw))
     clear h0 HN5 HP1 HPM hCB
     go_upto_region 8 with (fail)
     have hq7:=one_setCell (u:= .string path) hq6
     have hm7:=(heap_setCell_other w6 ⟨g2,0,none⟩ g (.string path) hne).trans hm6
     have hkp7:=hkp6.trans (Kp.setAt (fun b=>b=g∨b=g2) w6 g2 (.string path) (.inr rfl))
     generalize w6.setCell _ _=w7 at*
     clear cm6 cq6 fq6
     go_wp2
     go_ret
     exact ⟨ret_bool' (by show false=res;exact HF.out.symm),⟨hs1.trans (hkp7.below (fun b hb=>by omega) hBw),⟨n5,hm7,by rw[HF.out];exact ⟨fun h=>absurd h HNE.out,fun h=>by cases h⟩⟩,⟨path,hq7⟩⟩,hkp7⟩
   ·as_aux_lemma=>
    have hc:=hbox.cell 2 _ rfl
    have HCALL:=hQ (H2.out wr hWr)
    have HP1:=hQ (show passTo [o0,o1,o2,o3,o4,o5,o6,o7] (2+1)=o2 by rw[passTo_succ _ 2 (by simp),hps,Bool.true_and];rfl)
    have HPM:=hQ (fun h=>HOK.out.trans (passTo_mono [o0,o1,o2,o3,o4,o5,o6,o7] (2+1) h))
    clear H0 H1 H2 H3 H4 H5 H6 H7 hps hlt hk HOK hm1
    go_wp2_with fail
    refine HCALL.out.mono ?_
    rintro e w5 ⟨n5,rfl,hn5,hb5⟩
    clear HCALL hc
    have hm5:=(hb5.block _ hgr).trans hm
    have hq5:=(hb5.block _ hgr2).trans hq
    have cm5:=cell_of_one hm5
    have fm5:=free_of_one hm5
    have hbox5:=hbox.step hb5
    have hkp5:=hkp.trans (Kp.of hb5)
    go_upto_region 6 with (fail)
    have hm6:=one_setCell (u:= .int .i64 n5) hm5
    have hq6:=(heap_setCell_other w5 ⟨g,0,none⟩ g2 (.int .i64 n5) (fun h=>hne h.symm)).trans hq5
    have hbox6:Box 213 gF (fnsOf R) (w5.setCell ⟨g,0,none⟩ (.int .i64 n5)):=hbox5.kp (Kp.setAt (fun b=>b=g) w5 g _ rfl) (by omega)
    have hkp6:=hkp5.trans (Kp.setAt (fun b=>b=g∨b=g2) w5 g (.int .i64 n5) (.inl rfl))
    clear cm5 fm5 hm5 hq5 hbox5 hkp5 hb5 hbox hkp hm hq
    generalize w5.setCell _ _=w6 at*
    have cm6:=cell_of_one hm6
    have HN5:=hQ hn5
    clear hn5
    by_cases h0:n5=0
    ·subst h0
     have HP2:=hQ (HP1.out.trans (HN5.out.1 rfl))
     clear HN5 HP1 HPM
     go_wp2
     go_roundw
     case rel=>exact ⟨2+1,by omega,by first|rfl|go_num,hkp6,hbox6,⟨0,hm6, .inr rfl⟩,⟨q,hq6⟩,HP2.out⟩
     case measure=>simp[intOf]
    ·have h0':=neB h0
     have HF:=hQ (show res=false from HPM.out (HP1.out.trans (by
      cases ho:o2 with
      |true=>exact absurd (HN5.out.2 ho) h0
      |false=>rfl)))
     have HNE:=hQ h0
     have cq6:=cell_of_one hq6
     have fq6:=free_of_one hq6
     have HB6:=hQ (hs1.trans (hkp6.below hCB hBw))
     clear h0 HN5 HP1 HPM hCB
     go_upto_region 8 with (fail)
     have hq7:=one_setCell (u:= .string path) hq6
     have hm7:=(heap_setCell_other w6 ⟨g2,0,none⟩ g (.string path) hne).trans hm6
     have hkp7:=hkp6.trans (Kp.setAt (fun b=>b=g∨b=g2) w6 g2 (.string path) (.inr rfl))
     generalize w6.setCell _ _=w7 at*
     clear cm6 cq6 fq6
     go_wp2
     go_ret
     exact ⟨ret_bool' (by show false=res;exact HF.out.symm),⟨hs1.trans (hkp7.below (fun b hb=>by omega) hBw),⟨n5,hm7,by rw[HF.out];exact ⟨fun h=>absurd h HNE.out,fun h=>by cases h⟩⟩,⟨path,hq7⟩⟩,hkp7⟩
   ·as_aux_lemma=>
    have hc:=hbox.cell 3 _ rfl
    have HCALL:=hQ (H3.out wr hWr)
    have HP1:=hQ (show passTo [o0,o1,o2,o3,o4,o5,o6,o7] (3+1)=o3 by rw[passTo_succ _ 3 (by simp),hps,Bool.true_and];rfl)
    have HPM:=hQ (fun h=>HOK.out.trans (passTo_mono [o0,o1,o2,o3,o4,o5,o6,o7] (3+1) h))
    clear H0 H1 H2 H3 H4 H5 H6 H7 hps hlt hk HOK hm1
    go_wp2_with fail
    refine HCALL.out.mono ?_
    rintro e w5 ⟨n5,rfl,hn5,hb5⟩
    clear HCALL hc
    have hm5:=(hb5.block _ hgr).trans hm
    have hq5:=(hb5.block _ hgr2).trans hq
    have cm5:=cell_of_one hm5
    have fm5:=free_of_one hm5
    have hbox5:=hbox.step hb5
    have hkp5:=hkp.trans (Kp.of hb5)
    go_upto_region 6 with (fail)
    have hm6:=one_setCell (u:= .int .i64 n5) hm5
    have hq6:=(heap_setCell_other w5 ⟨g,0,none⟩ g2 (.int .i64 n5) (fun h=>hne h.symm)).trans hq5
    have hbox6:Box 213 gF (fnsOf R) (w5.setCell ⟨g,0,none⟩ (.int .i64 n5)):=hbox5.kp (Kp.setAt (fun b=>b=g) w5 g _ rfl) (by omega)
    have hkp6:=hkp5.trans (Kp.setAt (fun b=>b=g∨b=g2) w5 g (.int .i64 n5) (.inl rfl))
    clear cm5 fm5 hm5 hq5 hbox5 hkp5 hb5 hbox hkp hm hq
    generalize w5.setCell _ _=w6 at*
    have cm6:=cell_of_one hm6
    have HN5:=hQ hn5
    clear hn5
    by_cases h0:n5=0
    ·subst h0
     have HP2:=hQ (HP1.out.trans (HN5.out.1 rfl))
     clear HN5 HP1 HPM
     go_wp2
     go_roundw
     case rel=>exact ⟨3+1,by omega,by first|rfl|go_num,hkp6,hbox6,⟨0,hm6, .inr rfl⟩,⟨q,hq6⟩,HP2.out⟩
     case measure=>simp[intOf]
    ·have h0':=neB h0
     have HF:=hQ (show res=false from HPM.out (HP1.out.trans (by
      cases ho:o3 with
      |true=>exact absurd (HN5.out.2 ho) h0
      |false=>rfl)))
     have HNE:=hQ h0
     have cq6:=cell_of_one hq6
     have fq6:=free_of_one hq6
     have HB6:=hQ (hs1.trans (hkp6.below hCB hBw))
     clear h0 HN5 HP1 HPM hCB
     go_upto_region 8 with (fail)
     have hq7:=one_setCell (u:= .string path) hq6
     have hm7:=(heap_setCell_other w6 ⟨g2,0,none⟩ g (.string path) hne).trans hm6
     have hkp7:=hkp6.trans (Kp.setAt (fun b=>b=g∨b=g2) w6 g2 (.string path) (.inr rfl))
     generalize w6.setCell _ _=w7 at*
     clear cm6 cq6 fq6
     go_wp2
     go_ret
     exact ⟨ret_bool' (by show false=res;exact HF.out.symm),⟨hs1.trans (hkp7.below (fun b hb=>by omega) hBw),⟨n5,hm7,by rw[HF.out];exact ⟨fun h=>absurd h HNE.out,fun h=>by cases h⟩⟩,⟨path,hq7⟩⟩,hkp7⟩
   ·as_aux_lemma=>
    have hc:=hbox.cell 4 _ rfl
    have HCALL:=hQ (H4.out wr hWr)
    have HP1:=hQ (show passTo [o0,o1,o2,o3,o4,o5,o6,o7] (4+1)=o4 by rw[passTo_succ _ 4 (by simp),hps,Bool.true_and];rfl)
    have HPM:=hQ (fun h=>HOK.out.trans (passTo_mono [o0,o1,o2,o3,o4,o5,o6,o7] (4+1) h))
    clear H0 H1 H2 H3 H4 H5 H6 H7 hps hlt hk HOK hm1
    go_wp2_with fail
    refine HCALL.out.mono ?_
    rintro e w5 ⟨n5,rfl,hn5,hb5⟩
    clear HCALL hc
    have hm5:=(hb5.block _ hgr).trans hm
    have hq5:=(hb5.block _ hgr2).trans hq
    have cm5:=cell_of_one hm5
    have fm5:=free_of_one hm5
    have hbox5:=hbox.step hb5
    have hkp5:=hkp.trans (Kp.of hb5)
    go_upto_region 6 with (fail)
    have hm6:=one_setCell (u:= .int .i64 n5) hm5
    have hq6:=(heap_setCell_other w5 ⟨g,0,none⟩ g2 (.int .i64 n5) (fun h=>hne h.symm)).trans hq5
    have hbox6:Box 213 gF (fnsOf R) (w5.setCell ⟨g,0,none⟩ (.int .i64 n5)):=hbox5.kp (Kp.setAt (fun b=>b=g) w5 g _ rfl) (by omega)
    have hkp6:=hkp5.trans (Kp.setAt (fun b=>b=g∨b=g2) w5 g (.int .i64 n5) (.inl rfl))
    clear cm5 fm5 hm5 hq5 hbox5 hkp5 hb5 hbox hkp hm hq
    generalize w5.setCell _ _=w6 at*
    have cm6:=cell_of_one hm6
    have HN5:=hQ hn5
    clear hn5
    by_cases h0:n5=0
    ·subst h0
     have HP2:=hQ (HP1.out.trans (HN5.out.1 rfl))
     clear HN5 HP1 HPM
     go_wp2
     go_roundw
     case rel=>exact ⟨4+1,by omega,by first|rfl|go_num,hkp6,hbox6,⟨0,hm6, .inr rfl⟩,⟨q,hq6⟩,HP2.out⟩
     case measure=>simp[intOf]
    ·have h0':=neB h0
     have HF:=hQ (show res=false from HPM.out (HP1.out.trans (by
      cases ho:o4 with
      |true=>exact absurd (HN5.out.2 ho) h0
      |false=>rfl)))
     have HNE:=hQ h0
     have cq6:=cell_of_one hq6
     have fq6:=free_of_one hq6
     have HB6:=hQ (hs1.trans (hkp6.below hCB hBw))
     clear h0 HN5 HP1 HPM hCB
     go_upto_region 8 with (fail)
     have hq7:=one_setCell (u:= .string path) hq6
     have hm7:=(heap_setCell_other w6 ⟨g2,0,none⟩ g (.string path) hne).trans hm6
     have hkp7:=hkp6.trans (Kp.setAt (fun b=>b=g∨b=g2) w6 g2 (.string path) (.inr rfl))
     generalize w6.setCell _ _=w7 at*
     clear cm6 cq6 fq6
     go_wp2
     go_ret
     exact ⟨ret_bool' (by show false=res;exact HF.out.symm),⟨hs1.trans (hkp7.below (fun b hb=>by omega) hBw),⟨n5,hm7,by rw[HF.out];exact ⟨fun h=>absurd h HNE.out,fun h=>by cases h⟩⟩,⟨path,hq7⟩⟩,hkp7⟩
   ·as_aux_lemma=>
    have hc:=hbox.cell 5 _ rfl
    have HCALL:=hQ (H5.out wr hWr)
    have HP1:=hQ (show passTo [o0,o1,o2,o3,o4,o5,o6,o7] (5+1)=o5 by rw[passTo_succ _ 5 (by simp),hps,Bool.true_and];rfl)
    have HPM:=hQ (fun h=>HOK.out.trans (passTo_mono [o0,o1,o2,o3,o4,o5,o6,o7] (5+1) h))
    clear H0 H1 H2 H3 H4 H5 H6 H7 hps hlt hk HOK hm1
    go_wp2_with fail
    refine HCALL.out.mono ?_
    rintro e w5 ⟨n5,rfl,hn5,hb5⟩
    clear HCALL hc
    have hm5:=(hb5.block _ hgr).trans hm
    have hq5:=(hb5.block _ hgr2).trans hq
    have cm5:=cell_of_one hm5
    have fm5:=free_of_one hm5
    have hbox5:=hbox.step hb5
    have hkp5:=hkp.trans (Kp.of hb5)
    go_upto_region 6 with (fail)
    have hm6:=one_setCell (u:= .int .i64 n5) hm5
    have hq6:=(heap_setCell_other w5 ⟨g,0,none⟩ g2 (.int .i64 n5) (fun h=>hne h.symm)).trans hq5
    have hbox6:Box 213 gF (fnsOf R) (w5.setCell ⟨g,0,none⟩ (.int .i64 n5)):=hbox5.kp (Kp.setAt (fun b=>b=g) w5 g _ rfl) (by omega)
    have hkp6:=hkp5.trans (Kp.setAt (fun b=>b=g∨b=g2) w5 g (.int .i64 n5) (.inl rfl))
    clear cm5 fm5 hm5 hq5 hbox5 hkp5 hb5 hbox hkp hm hq
    generalize w5.setCell _ _=w6 at*
    have cm6:=cell_of_one hm6
    have HN5:=hQ hn5
    clear hn5
    by_cases h0:n5=0
    ·subst h0
     have HP2:=hQ (HP1.out.trans (HN5.out.1 rfl))
     clear HN5 HP1 HPM
     go_wp2
     go_roundw
     case rel=>exact ⟨5+1,by omega,by first|rfl|go_num,hkp6,hbox6,⟨0,hm6, .inr rfl⟩,⟨q,hq6⟩,HP2.out⟩
     case measure=>simp[intOf]
    ·have h0':=neB h0
     have HF:=hQ (show res=false from HPM.out (HP1.out.trans (by
      cases ho:o5 with
      |true=>exact absurd (HN5.out.2 ho) h0
      |false=>rfl)))
     have HNE:=hQ h0
     have cq6:=cell_of_one hq6
     have fq6:=free_of_one hq6
     have HB6:=hQ (hs1.trans (hkp6.below hCB hBw))
     clear h0 HN5 HP1 HPM hCB
     go_upto_region 8 with (fail)
     have hq7:=one_setCell (u:= .string path) hq6
     have hm7:=(heap_setCell_other w6 ⟨g2,0,none⟩ g (.string path) hne).trans hm6
     have hkp7:=hkp6.trans (Kp.setAt (fun b=>b=g∨b=g2) w6 g2 (.string path) (.inr rfl))
     generalize w6.setCell _ _=w7 at*
     clear cm6 cq6 fq6
     go_wp2
     go_ret
     exact ⟨ret_bool' (by show false=res;exact HF.out.symm),⟨hs1.trans (hkp7.below (fun b hb=>by omega) hBw),⟨n5,hm7,by rw[HF.out];exact ⟨fun h=>absurd h HNE.out,fun h=>by cases h⟩⟩,⟨path,hq7⟩⟩,hkp7⟩
   ·as_aux_lemma=>
    have hc:=hbox.cell 6 _ rfl
    have HCALL:=hQ (H6.out wr hWr)
    have HP1:=hQ (show passTo [o0,o1,o2,o3,o4,o5,o6,o7] (6+1)=o6 by rw[passTo_succ _ 6 (by simp),hps,Bool.true_and];rfl)
    have HPM:=hQ (fun h=>HOK.out.trans (passTo_mono [o0,o1,o2,o3,o4,o5,o6,o7] (6+1) h))
    clear H0 H1 H2 H3 H4 H5 H6 H7 hps hlt hk HOK hm1
    go_wp2_with fail
    refine HCALL.out.mono ?_
    rintro e w5 ⟨n5,rfl,hn5,hb5⟩
    clear HCALL hc
    have hm5:=(hb5.block _ hgr).trans hm
    have hq5:=(hb5.block _ hgr2).trans hq
    have cm5:=cell_of_one hm5
    have fm5:=free_of_one hm5
    have hbox5:=hbox.step hb5
    have hkp5:=hkp.trans (Kp.of hb5)
    go_upto_region 6 with (fail)
    have hm6:=one_setCell (u:= .int .i64 n5) hm5
    have hq6:=(heap_setCell_other w5 ⟨g,0,none⟩ g2 (.int .i64 n5) (fun h=>hne h.symm)).trans hq5
    have hbox6:Box 213 gF (fnsOf R) (w5.setCell ⟨g,0,none⟩ (.int .i64 n5)):=hbox5.kp (Kp.setAt (fun b=>b=g) w5 g _ rfl) (by omega)
    have hkp6:=hkp5.trans (Kp.setAt (fun b=>b=g∨b=g2) w5 g (.int .i64 n5) (.inl rfl))
    clear cm5 fm5 hm5 hq5 hbox5 hkp5 hb5 hbox hkp hm hq
    generalize w5.setCell _ _=w6 at*
    have cm6:=cell_of_one hm6
    have HN5:=hQ hn5
    clear hn5
    by_cases h0:n5=0
    ·subst h0
     have HP2:=hQ (HP1.out.trans (HN5.out.1 rfl))
     clear HN5 HP1 HPM
     go_wp2
     go_roundw
     case rel=>exact ⟨6+1,by omega,by first|rfl|go_num,hkp6,hbox6,⟨0,hm6, .inr rfl⟩,⟨q,hq6⟩,HP2.out⟩
     case measure=>simp[intOf]
    ·have h0':=neB h0
     have HF:=hQ (show res=false from HPM.out (HP1.out.trans (by
      cases ho:o6 with
      |true=>exact absurd (HN5.out.2 ho) h0
      |false=>rfl)))
     have HNE:=hQ h0
     have cq6:=cell_of_one hq6
     have fq6:=free_of_one hq6
     have HB6:=hQ (hs1.trans (hkp6.below hCB hBw))
     clear h0 HN5 HP1 HPM hCB
     go_upto_region 8 with (fail)
     have hq7:=one_setCell (u:= .string path) hq6
     have hm7:=(heap_setCell_other w6 ⟨g2,0,none⟩ g (.string path) hne).trans hm6
     have hkp7:=hkp6.trans (Kp.setAt (fun b=>b=g∨b=g2) w6 g2 (.string path) (.inr rfl))
     generalize w6.setCell _ _=w7 at*
     clear cm6 cq6 fq6
     go_wp2
     go_ret
     exact ⟨ret_bool' (by show false=res;exact HF.out.symm),⟨hs1.trans (hkp7.below (fun b hb=>by omega) hBw),⟨n5,hm7,by rw[HF.out];exact ⟨fun h=>absurd h HNE.out,fun h=>by cases h⟩⟩,⟨path,hq7⟩⟩,hkp7⟩
   ·as_aux_lemma=>
    have hc:=hbox.cell 7 _ rfl
    have HCALL:=hQ (H7.out wr hWr)
    have HP1:=hQ (show passTo [o0,o1,o2,o3,o4,o5,o6,o7] (7+1)=o7 by rw[passTo_succ _ 7 (by simp),hps,Bool.true_and];rfl)
    have HPM:=hQ (fun h=>HOK.out.trans (passTo_mono [o0,o1,o2,o3,o4,o5,o6,o7] (7+1) h))
    clear H0 H1 H2 H3 H4 H5 H6 H7 hps hlt hk HOK hm1
    go_wp2_with fail
    refine HCALL.out.mono ?_
    rintro e w5 ⟨n5,rfl,hn5,hb5⟩
    clear HCALL hc
    have hm5:=(hb5.block _ hgr).trans hm
    have hq5:=(hb5.block _ hgr2).trans hq
    have cm5:=cell_of_one hm5
    have fm5:=free_of_one hm5
    have hbox5:=hbox.step hb5
    have hkp5:=hkp.trans (Kp.of hb5)
    go_upto_region 6 with (fail)
    have hm6:=one_setCell (u:= .int .i64 n5) hm5
    have hq6:=(heap_setCell_other w5 ⟨g,0,none⟩ g2 (.int .i64 n5) (fun h=>hne h.symm)).trans hq5
    have hbox6:Box 213 gF (fnsOf R) (w5.setCell ⟨g,0,none⟩ (.int .i64 n5)):=hbox5.kp (Kp.setAt (fun b=>b=g) w5 g _ rfl) (by omega)
    have hkp6:=hkp5.trans (Kp.setAt (fun b=>b=g∨b=g2) w5 g (.int .i64 n5) (.inl rfl))
    clear cm5 fm5 hm5 hq5 hbox5 hkp5 hb5 hbox hkp hm hq
    generalize w5.setCell _ _=w6 at*
    have cm6:=cell_of_one hm6
    have HN5:=hQ hn5
    clear hn5
    by_cases h0:n5=0
    ·subst h0
     have HP2:=hQ (HP1.out.trans (HN5.out.1 rfl))
     clear HN5 HP1 HPM
     go_wp2
     go_roundw
     case rel=>exact ⟨7+1,by omega,by first|rfl|go_num,hkp6,hbox6,⟨0,hm6, .inr rfl⟩,⟨q,hq6⟩,HP2.out⟩
     case measure=>simp[intOf]
    ·have h0':=neB h0
     have HF:=hQ (show res=false from HPM.out (HP1.out.trans (by
      cases ho:o7 with
      |true=>exact absurd (HN5.out.2 ho) h0
      |false=>rfl)))
     have HNE:=hQ h0
     have cq6:=cell_of_one hq6
     have fq6:=free_of_one hq6
     have HB6:=hQ (hs1.trans (hkp6.below hCB hBw))
     clear h0 HN5 HP1 HPM hCB
     go_upto_region 8 with (fail)
     have hq7:=one_setCell (u:= .string path) hq6
     have hm7:=(heap_setCell_other w6 ⟨g2,0,none⟩ g (.string path) hne).trans hm6
     have hkp7:=hkp6.trans (Kp.setAt (fun b=>b=g∨b=g2) w6 g2 (.string path) (.inr rfl))
     generalize w6.setCell _ _=w7 at*
     clear cm6 cq6 fq6
     go_wp2
     go_ret
     exact ⟨ret_bool' (by show false=res;exact HF.out.symm),⟨hs1.trans (hkp7.below (fun b hb=>by omega) hBw),⟨n5,hm7,by rw[HF.out];exact ⟨fun h=>absurd h HNE.out,fun h=>by cases h⟩⟩,⟨path,hq7⟩⟩,hkp7⟩
  ·have hk8:k=8:=by omega
   subst hk8
   have HF:=hQ (show res=true by rw[HOK.out];exact hps)
   have hm0:m=0:=by omega
   subst hm0
   clear H0 H1 H2 H3 H4 H5 H6 H7 HOK hps
   go_wp2
   go_ret
   exact ⟨ret_bool' (by show true=res;exact HF.out.symm),⟨hBr,⟨0,hm,by rw[HF.out];decide⟩,⟨q,hq⟩⟩,hkp⟩
end Go.Proofs.YtbeccmkegckjjaaGreatDoor
end
