/- Law 43, UdfbuildSizes: a part of the proof. -/
import Derived.Test.YtbeccmkegckjjaaGreatDoorQ24
import Derived.Test.YtbeccmkegckjjaaGreatDoorQ13
set_option linter.unusedVariables false
set_option linter.ambiguousOpen false
set_option linter.unusedSimpArgs false
section
namespace Go.Proofs.YtbeccmkegckjjaaGreatDoor
open Go.RowKit
set_option maxRecDepth 1000000
set_option maxHeartbeats 3200000
theorem kidsOK_def(n:Nat)(kids:List (NT n))(lv:Nat):kidsOK n kids lv kids.length=kids.all fun k=>ntOK n k lv:=by unfold kidsOK;rw[List.take_length]
theorem ntWalk_ck: ∀(n:Nat) (t:NT n) (l:Nat) (s:Bool),ntWalk ckStep n t l s=(ntOK n t l,ntOK n t l)
 |0,t,_,_=>nomatch t
 |n+1,(f,kids),l,s=>by
  have hnm:(kids.map (ntF n)).map (·.name)=kidNames n kids:=by rw[List.map_map];rfl
  have hs:ckStep (f,kids.map (ntF n)) l s=(oneOK f (kidNames n kids) l,oneOK f (kidNames n kids) l):=by unfold ckStep;rw[hnm]
  have key: ∀(ks:List (NT n)),ks.foldl (fun y k=>if y.2 then ntWalk ckStep n k (l+1) y.1 else y) (true,true)=(ks.all (fun k=>ntOK n k (l+1)),ks.all fun k=>ntOK n k (l+1)):=fun ks=>by
   induction ks with
   |nil=>rfl
   |cons k ks ih=>
    rw[List.foldl_cons,if_pos rfl,ntWalk_ck n k,List.all_cons]
    cases h:ntOK n k (l+1) with
    |true=>rw[ih];simp
    |false=>
     rw[foldl_stop (fun k y=>ntWalk ckStep n k (l+1) y)];rfl
  rw[ntOK_def,kidsOK_def]
  show (if (ckStep (f,kids.map (ntF n)) l s).2 then _ else _)=_
  rw[hs]
  cases h:oneOK f (kidNames n kids) l with
  |true=>exact (key kids).trans (by simp)
  |false=>rfl
theorem CkSt.step{w0:World}{g g2:Nat}{s:Bool}{w w':World}(hB:w0.heap.size≤w.heap.size)(h:CkSt w0 g g2 s w)(hb:Below w.heap.size w w'):CkSt w0 g g2 s w':=by
 obtain ⟨h1,⟨m,h2,h3⟩,q,h4⟩:=h
 exact ⟨h1.trans (hb.mono hB),⟨m,(hb.block _ (Array.getElem?_eq_some_iff.1 h2).1).trans h2,h3⟩,q,(hb.block _ (Array.getElem?_eq_some_iff.1 h4).1).trans h4⟩
theorem p_check(n:Nat)(t:NT n)(vs:List Value)(B:Nat)(w:World)(h:NodeV w (· < B) n t vs)(hB:B≤w.heap.size)(hT:TabsM w)(hn:n≤90)(hc:ntCount n t≤64)(hz:ntBytes n t≤40000):
 Calls Tryz.prog 42 #[.agg vs.toArray] w fun e w'=> ∃(s:ByteArray) (m:Int),e= .returned (.tuple #[.string s, .int .i64 m])∧(m=0↔treeOK n t=true)∧Below w.heap.size w w':=by
 have HC:=hQ (fun (W:World) (hb:Below w.heap.size w W)=>p_count n t vs W ((h.below (hb.mono hB)).mono (Nat.le_trans hB hb.size)) hn (by omega) hz)
 have HWK:=hQ (fun (w1:World) (hw:Below w.heap.size w w1) (W:World) (hb:Below w1.heap.size w1 W) (hD:w1.heap.size+2≤W.heap.size) (h1:W.heap[w1.heap.size+1]? =some (.cells #[.int .i64 0] 28 (0,0))) (h2:W.heap[w1.heap.size]? =some (.cells #[.string ⟨#[]⟩] 9 (0,0)))=>
  p_walkK ckStep (fun s W'=>CkSt w1 (w1.heap.size+1) w1.heap.size s W') w1.heap.size (w1.heap.size+2) (fun b=>b=w1.heap.size+1∨b=w1.heap.size) (w1.heap.size+1) w1.heap.size (fun b hb=>by omega) (by omega)
   (fun s w2 w3 hs hb=>hs.step hs.1.size hb) (p_check1 w1 (w1.heap.size+1) w1.heap.size (w1.heap.size+2) (hT.step hw) (by omega) (by omega) (by omega)) n t vs W ⟨#[]⟩ 1 true
   ((h.below (hw.mono hB)).mono (Nat.le_trans hB hw.size) |>.below hb) hD ⟨hb,⟨0,h1,by decide⟩,_,h2⟩ (by omega) (by show 0+_≤_;omega) hz (Nat.le_refl _) hc)
 have HD:Hid (∀s,ntWalk ckStep n t 1 s=(treeOK n t,treeOK n t)):=fun s=>ntWalk_ck n t 1 s
 rw[HD.out] at HWK
 obtain ⟨f,a,a2,l,c,l2,c2,rfl⟩:=h.cells
 have HB0:=hQ (Box.new (ty:=25) w (nfCells f (.slice a l c) (.slice a2 l2 c2)))
 have hcc:(ntCount n t:Int)≤256:=by omega
 clear h HD
 generalize ntCount n t=cc at*
 generalize treeOK n t=ok at*
 have hb0:=below_alloc1 w (.cells (nfCells f (.slice a l c) (.slice a2 l2 c2)).toArray 25)
 unfold nfCells at HC HWK hb0 ⊢
 go_enter Tryz.func42,Tryz.ntmps42
 go_wp2_with fail
 refine (HC.out _ hb0).mono ?_
 rintro e w1 ⟨rfl,hb1⟩
 have hbw1:=hb0.trans (hb1.mono hb0.size)
 have hbox1:=HB0.out.step hb1
 obtain ⟨k0,k1,k2,k3,k4,k5,k6,k7,k8,k9,k10,k11⟩:=hbox1.all
 go_upto_region 4 with (fail)
 have e1:(w1.alloc (.cells #[.string ⟨#[]⟩] 9)).heap.size=w1.heap.size+1:=alloc_size _ _
 have hbA:=below_alloc1 w1 (.cells #[.string ⟨#[]⟩] 9)
 have hbB:=hbA.alloc hbA.size (.cells #[.int .i64 0] 28)
 have HL1:=heap_alloc_last (w1.alloc (.cells #[.string ⟨#[]⟩] 9)) (.cells #[.int .i64 0] 28)
 rw[e1] at HL1
 have HL2:=(Below.heap_alloc (w1.alloc (.cells #[.string ⟨#[]⟩] 9)) (.cells #[.int .i64 0] 28) w1.heap.size (by rw[e1];omega)).trans (heap_alloc_last w1 (.cells #[.string ⟨#[]⟩] 9))
 have hsz:w1.heap.size+2≤((w1.alloc (.cells #[.string ⟨#[]⟩] 9)).alloc (.cells #[.int .i64 0] 28)).heap.size:=by rw[alloc_size,e1];omega
 generalize (w1.alloc (.cells #[.string ⟨#[]⟩] 9)).alloc (.cells #[.int .i64 0] 28)=W at*
 clear k0 k1 k2 k3 k4 k5 k6 k7 k8 k9 k10 k11
 obtain ⟨k0,k1,k2,k3,k4,k5,k6,k7,k8,k9,k10,k11⟩:=(hbox1.step hbB).all
 go_wp2_with fail
 refine (HWK.out w1 hbw1 W hbB hsz HL1 HL2).mono ?_
 rintro e w2 ⟨rfl,⟨hs1,⟨m,hm,hm1⟩,q,hq⟩,hk2⟩
 have cm:=cell_of_one hm
 have cq:=cell_of_one hq
 have HM:=hQ hm1
 clear k0 k1 k2 k3 k4 k5 k6 k7 k8 k9 k10 k11 HL1 HL2 hm1 hm hq HWK HC
 go_wp2_with fail
 go_quiet (fail)
 go_wp2
 go_ret2
 exact ⟨_,_,rfl,HM.out,below_drewN (hbw1.trans (hs1.mono hbw1.size)) _⟩
theorem p_valid(n:Nat)(t:NT n)(vs:List Value)(B:Nat)(w:World)(h:NodeV w (· < B) n t vs)(hB:B≤w.heap.size)(hT:TabsM w)(hn:n≤90)(hc:ntCount n t≤64)(hz:ntBytes n t≤40000):
 Calls Tryz.prog 14 #[.agg vs.toArray] w fun e w'=>e= .returned (.bool (treeOK n t))∧Below w.heap.size w w':=by
 have HC:=hQ (fun (W:World) (hb:Below w.heap.size w W)=>p_check n t vs B W (h.below (hb.mono hB)) (Nat.le_trans hB hb.size) (hT.step hb) hn hc hz)
 obtain ⟨f,a,a2,l,c,l2,c2,rfl⟩:=h.cells
 clear h
 generalize treeOK n t=ok at*
 have hb0:=below_alloc1 w (.cells (nfCells f (.slice a l c) (.slice a2 l2 c2)).toArray 25)
 unfold nfCells at HC hb0 ⊢
 go_enter Tryz.func14,Tryz.ntmps14
 go_wp2_with fail
 refine (HC.out _ hb0).mono ?_
 rintro e w1 ⟨s,m,rfl,hm,hb1⟩
 by_cases h0:m=0
 ·subst h0
  have ho:=hm.1 rfl
  clear hm
  go_wp2
  go_ret
  exact ⟨ret_bool' ho.symm,hb0.trans (hb1.mono hb0.size)⟩
 ·have ho:ok=false:=by
   cases ok with
   |true=>exact absurd (hm.2 rfl) h0
   |false=>rfl
  have h0':=neB' h0
  clear h0 hm
  go_wp2
  go_ret
  exact ⟨ret_bool' ho.symm,hb0.trans (hb1.mono hb0.size)⟩
end Go.Proofs.YtbeccmkegckjjaaGreatDoor
end
