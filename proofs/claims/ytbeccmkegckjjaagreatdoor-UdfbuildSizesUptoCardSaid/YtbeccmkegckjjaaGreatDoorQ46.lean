/- Law 43, UdfbuildSizes: a part of the proof. -/
import Derived.Test.YtbeccmkegckjjaaGreatDoorQ21
import Derived.Test.YtbeccmkegckjjaaGreatDoorQ27
import Derived.Test.YtbeccmkegckjjaaGreatDoorQ26
import Derived.Test.YtbeccmkegckjjaaGreatDoorQ33
import Derived.Test.YtbeccmkegckjjaaGreatDoorQ36
import Derived.Test.YtbeccmkegckjjaaGreatDoorQ45
section
namespace Go.Proofs.YtbeccmkegckjjaaGreatDoor
open Go.RowKit
set_option maxRecDepth 1000000
set_option maxHeartbeats 12800000
theorem p_tree(n:Nat)(t:NT n)(vs:List Value)(B:Nat)(w:World)(h:NodeV w (· < B) n t vs)(hB:B≤w.heap.size)(hT:TabsM w)(hok:treeOK n t=true)(hc:ntCount n t≤64)(hz:ntBytes n t≤40000)(hn:n≤90):
 Calls Tryz.prog 116 #[.int .i64 3, .agg vs.toArray, .func (.func 117) #[] #[]] w fun e w'=>(∃vs':List Value,e= .returned (.tuple #[.agg vs'.toArray, .int .i64 0])∧NodeV w' (Fr w.heap.size w') n (ntView n t) vs')∧Below w.heap.size w w':=by
 obtain ⟨a,a2,l,c,l2,c2,rfl⟩:=h.cellsF
 have HV:=hQ (fun (W:World) (hb:Below w.heap.size w W)=>p_valid n t _ B W (h.below (hb.mono hB)) (Nat.le_trans hB hb.size) (hT.step hb) hn hc hz)
 rw[hok] at HV
 have HS:=hQ (show ∀(W:World),Below w.heap.size w W→Calls Tryz.prog 214 #[.int .i64 3, .agg #[.string (ntF n t).name, .int .i64 (ntF n t).kind, .string (ntF n t).data, .string (ntF n t).target, .int .i64 (ntF n t).mode, .int .i64 (ntF n t).uid, .int .i64 (ntF n t).gid, .int .i64 (ntF n t).time, .int .i64 (ntF n t).weight, .int .i64 (ntF n t).hidden, .slice a l c, .slice a2 l2 c2, .string ⟨#[]⟩, .string ⟨#[]⟩], .int .i64 1, .func (.func 117) #[] #[]] W fun e w'=>
  ∃vs':List Value,e= .returned (.agg vs'.toArray)∧NodeV w' (Fr W.heap.size w') n (ntView n t) vs'∧Below W.heap.size W w' from
  fun W hb=>by
   have h:=p_show n t (nfCells (ntF n t) (.slice a l c) (.slice a2 l2 c2)) B W 1 ⟨#[]⟩ ⟨#[]⟩ (h.below (hb.mono hB)) (Nat.le_trans hB hb.size) hok hc (by omega) (Nat.le_refl _) (by omega) (Nat.zero_le _) (Nat.zero_le _) (hT.step hb).1
   rw[show ((1:Nat):Int)=1 from rfl] at h
   exact h)
 have HE:=hQ (fun W:World=>p_exists W)
 have HB0:=hQ (Box.new (ty:=25) w (nfCells (ntF n t) (.slice a l c) (.slice a2 l2 c2)))
 have hb1:=below_alloc1 w (.cells (nfCells (ntF n t) (.slice a l c) (.slice a2 l2 c2)).toArray 25)
 clear h hc hz hT hok
 generalize hf:ntF n t=f at*
 clear hf
 unfold nfCells at HB0 hb1 HV ⊢
 go_enter Tryz.func116,Tryz.ntmps116
 go_upto_region 1 with (fail)
 have hbZ:=hb1.alloc hb1.size (.cells nodeZ 25)
 have HBA:=hQ (HB0.out.step (below_alloc1 _ (.cells nodeZ 25)))
 have HBR:=hQ (show Box 25 (w.heap.size+1) nodeZ.toList _ from by
  have h:=Box.new (ty:=25) (w.alloc (.cells #[.string f.name, .int .i64 f.kind, .string f.data, .string f.target, .int .i64 f.mode, .int .i64 f.uid, .int .i64 f.gid, .int .i64 f.time, .int .i64 f.weight, .int .i64 f.hidden, .slice a l c, .slice a2 l2 c2] 25)) nodeZ.toList
  rw[alloc_size] at h
  exact h)
 unfold nodeZ at hbZ HBA HBR
 generalize (w.alloc _).alloc _=w2 at*
 have hboxA:Box 25 w.heap.size (nfCells f (.slice a l c) (.slice a2 l2 c2)) w2:=HBA.out
 have hboxR:Box 25 (w.heap.size+1) nodeZ.toList w2:=HBR.out
 clear HBA HBR HB0 hb1
 have hbU:=hboxA
 unfold nfCells at hbU
 go_wp2_with (first
  |(go_at_call 213;refine (HE.out _).mono ?_;rintro e w5 ⟨rfl,rfl⟩)
  |(refine wpList_load_row rfl _ _ rfl w.heap.size _ _ _ rfl hbU Tryz.underlying25 rfl 12 node_size rfl ?_)
  |fail)
 refine (HV.out _ hbZ).mono ?_
 rintro e w3 ⟨rfl,hb3⟩
 have hboxA3:=hboxA.step hb3
 have hboxR3:=hboxR.step hb3
 have hbw3:=hbZ.trans (hb3.mono hbZ.size)
 clear hboxA hboxR hbU hbZ hb3
 have hbU:=hboxA3
 unfold nfCells at hbU
 have HT3:=hQ (HS.out w3 hbw3)
 go_wp2_with (first
  |(refine wpList_load_row rfl _ _ rfl w.heap.size _ _ _ rfl hbU Tryz.underlying25 rfl 12 node_size rfl ?_)
  |fail)
 refine (HT3.out).mono ?_
 rintro e w5 ⟨vs',rfl,hn5,hb5⟩
 obtain ⟨b1,b2,d1,e1,d2,e2,rfl⟩:=hn5.cellsF
 have hboxR5:=hboxR3.step hb5
 have hbw5:=hbw3.trans (hb5.mono hbw3.size)
 have hboxF:=hboxR5.setRow (nfCells (ntF n (ntView n t)) (.slice b1 d1 e1) (.slice b2 d2 e2))
 have hkF:=Kp.setRow w5 (w.heap.size+1) (nfCells (ntF n (ntView n t)) (.slice b1 d1 e1) (.slice b2 d2 e2)).toArray
 have hlt3:=hboxR3.lt
 go_wp2_with (first
  |(refine wpList_store_row rfl _ _ _ rfl (w.heap.size+1) _ _ (nfCells (ntF n (ntView n t)) (.slice b1 d1 e1) (.slice b2 d2 e2)).toArray rfl rfl hboxR5 12 node_size rfl rfl (node_one _ _ _ _ _ _ _) ?_)
  |go_in)
 have hn9:=(hn5.fr_kp hkF (fun b hb=>by omega)).fr_base hbw3.size
 have hf:=hbw5.trans (hkF.below (fun b hb=>by omega) hbw5.size)
 refine bodyPost_ret (v:= .tuple #[.agg (nfCells (ntF n (ntView n t)) (.slice b1 d1 e1) (.slice b2 d2 e2)).toArray, .int .i64 0]) (results_cell2 (g:=w.heap.size+1) (t:=25) (cs:=(nfCells (ntF n (ntView n t)) (.slice b1 d1 e1) (.slice b2 d2 e2)).toArray) Tryz.results116 _ _ _ _ rfl hboxF Tryz.underlying25 rfl node_size) rfl ?_
 exact ⟨⟨_,rfl,hn9⟩,hf⟩
theorem p_viewN(n:Nat)(t:NT n)(vs:List Value)(B:Nat)(w:World)(h:NodeV w (· < B) n t vs)(hB:B≤w.heap.size)(hT:TabsM w)(hok:treeOK n t=true)(hc:ntCount n t≤64)(hz:ntBytes n t≤40000)(hn:n≤90):
 Calls Tryz.prog 43 #[.int .i64 3, .agg vs.toArray] w fun e w'=>(∃vs':List Value,e= .returned (.tuple #[.agg vs'.toArray, .int .i64 0])∧NodeV w' (Fr w.heap.size w') n (ntView n t) vs')∧Below w.heap.size w w':=by
 obtain ⟨a,a2,l,c,l2,c2,rfl⟩:=h.cellsF
 have HV:=hQ (fun (W:World) (hb:Below w.heap.size w W)=>p_tree n t _ B W (h.below (hb.mono hB)) (Nat.le_trans hB hb.size) (hT.step hb) hok hc hz hn)
 have HB0:=hQ (Box.new (ty:=25) w (nfCells (ntF n t) (.slice a l c) (.slice a2 l2 c2)))
 have hb1:=below_alloc1 w (.cells (nfCells (ntF n t) (.slice a l c) (.slice a2 l2 c2)).toArray 25)
 clear h hc hz hT hok
 generalize hf:ntF n t=f at*
 clear hf
 unfold nfCells at HB0 hb1 HV ⊢
 go_enter Tryz.func43,Tryz.ntmps43
 go_upto_region 1 with (fail)
 have hbZ:=hb1.alloc hb1.size (.cells nodeZ 25)
 have HBA:=hQ (HB0.out.step (below_alloc1 _ (.cells nodeZ 25)))
 have HBR:=hQ (show Box 25 (w.heap.size+1) nodeZ.toList _ from by
  have h:=Box.new (ty:=25) (w.alloc (.cells #[.string f.name, .int .i64 f.kind, .string f.data, .string f.target, .int .i64 f.mode, .int .i64 f.uid, .int .i64 f.gid, .int .i64 f.time, .int .i64 f.weight, .int .i64 f.hidden, .slice a l c, .slice a2 l2 c2] 25)) nodeZ.toList
  rw[alloc_size] at h
  exact h)
 unfold nodeZ at hbZ HBA HBR
 generalize (w.alloc _).alloc _=w2 at*
 have hboxA:Box 25 w.heap.size (nfCells f (.slice a l c) (.slice a2 l2 c2)) w2:=HBA.out
 have hboxR:Box 25 (w.heap.size+1) nodeZ.toList w2:=HBR.out
 clear HBA HBR HB0 hb1
 have hbU:=hboxA
 unfold nfCells at hbU
 go_wp2_with (first
  |(refine wpList_load_row rfl _ _ rfl w.heap.size _ _ _ rfl hbU Tryz.underlying25 rfl 12 node_size rfl ?_)
  |fail)
 refine (HV.out _ hbZ).mono ?_
 rintro e w5 ⟨⟨vs',rfl,hn5⟩,hb5⟩
 obtain ⟨b1,b2,d1,e1,d2,e2,rfl⟩:=hn5.cellsF
 have hboxR5:=hboxR.step hb5
 have hbw5:=hbZ.trans (hb5.mono hbZ.size)
 have hboxF:=hboxR5.setRow (nfCells (ntF n (ntView n t)) (.slice b1 d1 e1) (.slice b2 d2 e2))
 have hkF:=Kp.setRow w5 (w.heap.size+1) (nfCells (ntF n (ntView n t)) (.slice b1 d1 e1) (.slice b2 d2 e2)).toArray
 have hlt3:=hboxR.lt
 have hbz:=hbZ.size
 clear hbU
 go_wp2_with (first
  |(refine wpList_store_row rfl _ _ _ rfl (w.heap.size+1) _ _ (nfCells (ntF n (ntView n t)) (.slice b1 d1 e1) (.slice b2 d2 e2)).toArray rfl rfl hboxR5 12 node_size rfl rfl (node_one _ _ _ _ _ _ _) ?_)
  |go_in)
 have hn9:=(hn5.fr_kp hkF (fun b hb=>by omega)).fr_base hbz
 have hf:=hbw5.trans (hkF.below (fun b hb=>by omega) hbw5.size)
 refine bodyPost_ret (v:= .tuple #[.agg (nfCells (ntF n (ntView n t)) (.slice b1 d1 e1) (.slice b2 d2 e2)).toArray, .int .i64 0]) (results_cell2 (g:=w.heap.size+1) (t:=25) (cs:=(nfCells (ntF n (ntView n t)) (.slice b1 d1 e1) (.slice b2 d2 e2)).toArray) Tryz.results43 _ _ _ _ rfl hboxF Tryz.underlying25 rfl node_size) rfl ?_
 exact ⟨⟨_,rfl,hn9⟩,hf⟩
end Go.Proofs.YtbeccmkegckjjaaGreatDoor
end
section
namespace Go.Proofs.YtbeccmkegckjjaaGreatDoor
open Go.RowKit
set_option maxRecDepth 1000000
set_option maxHeartbeats 12800000
theorem p_sizeP(n:Nat)(t:NT n)(vs:List Value)(B:Nat)(w:World)(kind:Int)(h:NodeV w (· < B) n t vs)(hB:B≤w.heap.size)(hT:TabsM w)(hc:ntCount n t≤64)(hz:ntBytes n t≤40000)(hn:n≤90):
 Calls Tryz.prog 6 #[.agg vs.toArray, .int .i64 kind] w fun e w'=>e= .returned (.tuple #[.int .i64 (sizeA (treeOK n t) kind (fl n (ntView n t) 0)), .int .i64 (sizeE (treeOK n t) kind)])∧Below w.heap.size w w':=by
 obtain ⟨a,a2,l,c,l2,c2,rfl⟩:=h.cellsF
 have HV:=hQ (fun (W:World) (hb:Below w.heap.size w W)=>p_valid n t _ B W (h.below (hb.mono hB)) (Nat.le_trans hB hb.size) (hT.step hb) hn hc hz)
 have HO:=hQ (fun (W:World) (hb:Below w.heap.size w W) (hk:treeOK n t=true)=>p_outlined n t _ B W (h.below (hb.mono hB)) (Nat.le_trans hB hb.size) (hT.step hb) hk hc hz hn (fun W' hb'=>p_viewN n t _ B W' (h.below ((hb.trans (hb'.mono hb.size)).mono hB)) (Nat.le_trans hB (Nat.le_trans hb.size hb'.size)) (hT.step (hb.trans (hb'.mono hb.size))) hk hc hz hn))
 have HGOOD:=hQ (show treeOK n t=true→ ∀e∈fl n (ntView n t) 0,GoodE e from fun hk=>fl_good n t 1 0 (Nat.le_refl _) hk hc (by omega))
 have HLEN:=hQ (show (fl n (ntView n t) 0).length≤64 by rw[fl_len];exact Nat.le_trans (ntCount_view n t) hc)
 have HK:=hQ (fun W:World=>p_known kind W)
 have HKC:=hQ (knownK_cases kind)
 have HB0:=hQ (Box.new (ty:=25) w (nfCells (ntF n t) (.slice a l c) (.slice a2 l2 c2)))
 have hb1:=below_alloc1 w (.cells (nfCells (ntF n t) (.slice a l c) (.slice a2 l2 c2)).toArray 25)
 clear h hc hz hT
 generalize fl n (ntView n t) 0=es at*
 generalize treeOK n t=ok at*
 generalize ntF n t=f0 at*
 have HA:=hQ (show sizeA ok kind es=if knownK kind&&ok then (needK kind (cntTo es es.length) (itemsTo es es.length):Int) else 0 from rfl)
 have HE:=hQ (show sizeE ok kind=if knownK kind&&ok then 0 else 1 from rfl)
 generalize sizeA ok kind es=ra at*
 generalize sizeE ok kind=re at*
 unfold nfCells at HB0 hb1 HV HO ⊢
 go_enter Tryz.func6,Tryz.ntmps6
 go_upto_region 1 with (fail)
 have hboxA:Box 25 w.heap.size (nfCells f0 (.slice a l c) (.slice a2 l2 c2)) _:=HB0.out
 generalize w.alloc _=w2 at*
 clear HB0
 obtain ⟨k0,k1,k2,k3,k4,k5,k6,k7,k8,k9,k10,k11⟩:=hboxA.all
 have HKV:=hQ (show knownK kind=true∨knownK kind=false by cases knownK kind <;> simp)
 rcases HKV.out with hkn|hkn
 ·have hkr:0≤kind∧kind≤3:=by
   rcases HKC.out with ⟨h1,h2⟩|⟨h1,h2⟩|⟨h1,h1',h2⟩
   ·rw[hkn] at h2;cases h2
   ·rw[hkn] at h2;cases h2
   ·exact ⟨h1,h1'⟩
  have HKR:=hQ hkr
  rw[hkn] at HK HA HE
  clear hkr hkn HKV HKC
  have HV2:=hQ (HV.out _ hb1)
  go_wp2_with (first
   |(go_at_call 13;refine (HK.out _).mono ?_;rintro e w5 ⟨rfl,rfl⟩)
   |fail)
  refine HV2.out.mono ?_
  rintro e w3 ⟨rfl,hb3⟩
  have hboxA3:=hboxA.step hb3
  have hbw3:=hb1.trans (hb3.mono hb1.size)
  clear k0 k1 k2 k3 k4 k5 k6 k7 k8 k9 k10 k11 hboxA hb1 hb3 HV2 HV
  cases ok
  ·have HAE:=hQ (show ra=0∧re=1 from ⟨HA.out,HE.out⟩)
   clear HA HE
   go_wp2
   go_ret2
   exact ⟨ret_ii HAE.out.1.symm HAE.out.2.symm,hbw3⟩
  ·have HAE:=hQ (show ra=(needK kind (cntTo es es.length) (itemsTo es es.length):Int)∧re=0 from ⟨HA.out,HE.out⟩)
   have HO3:=hQ (HO.out w3 hbw3 rfl)
   have hlen:=HLEN.out
   have hcb:=cntTo_le es (HGOOD.out rfl) es.length (Nat.le_refl _)
   have hib:=itemsTo_le es (HGOOD.out rfl) es.length (Nat.le_refl _)
   have HSZ:=hQ (show itemsTo es es.length≤100000∧cntTo es es.length≤100000000 from ⟨by omega,by omega⟩)
   have hbU:=hboxA3
   unfold nfCells at hbU
   clear HA HE HGOOD HLEN hlen hcb hib HO
   generalize cntTo es es.length=cn at*
   generalize itemsTo es es.length=it at*
   go_wp2_with (first
    |(refine wpList_load_row rfl _ _ rfl w.heap.size _ _ _ rfl hbU Tryz.underlying25 rfl 12 node_size rfl ?_)
    |fail)
   refine HO3.out.mono ?_
   rintro e w5 ⟨go,ia,ic,rfl,c1,c2',hb5⟩
   have HZ5:=hQ (p_osize w5 go ia it ic cn kind c1 c2' HSZ.out.1 HSZ.out.2 HKR.out)
   have hbw5:=hbw3.trans (hb5.mono hbw3.size)
   clear hbU hboxA3 HO3 c1 c2' hb5 hbw3
   go_wp2_with fail
   refine HZ5.out.mono ?_
   rintro e w6 ⟨rfl,hb6⟩
   have hbw6:=hbw5.trans (hb6.mono hbw5.size)
   clear HZ5 hb6 hbw5
   go_wp2
   go_ret2
   exact ⟨ret_ii HAE.out.1.symm HAE.out.2.symm,hbw6⟩
 ·rw[hkn] at HK HA HE
  have HAE:=hQ (show ra=0∧re=1 from ⟨HA.out,HE.out⟩)
  clear HA HE HKV HKC hkn HV HO k0 k1 k2 k3 k4 k5 k6 k7 k8 k9 k10 k11 hboxA
  go_wp2_with (first
   |(go_at_call 13;refine (HK.out _).mono ?_;rintro e w5 ⟨rfl,rfl⟩)
   |fail)
  go_ret2
  exact ⟨ret_ii HAE.out.1.symm HAE.out.2.symm,hb1⟩
end Go.Proofs.YtbeccmkegckjjaaGreatDoor
end
section
namespace Go.Proofs.YtbeccmkegckjjaaGreatDoor
open Go.RowKit
set_option maxRecDepth 1000000
set_option maxHeartbeats 12800000
theorem nt_cut: ∀(n:Nat) (t:NT n) (m:Nat),ntLevels n t≤m→ ∃t':NT m,ntCount m t'=ntCount n t∧ntBytes m t'=ntBytes n t∧ ∀(w:World) (p:Nat→Prop) (vs:List Value),NodeV w p n t vs→NodeV w p m t' vs
 |0,t,_,_=>nomatch t
 |n+1,(f,kids),m,h=>by
  have hl:(kids.map (ntLevels n)).foldl max 0+1≤m:=h
  obtain ⟨m,rfl⟩: ∃m',m=m'+1:=⟨m-1,by omega⟩
  have hmax: ∀(l:List Nat) (a:Nat),a≤l.foldl max a∧ ∀x∈l,x≤l.foldl max a:=fun l=>by
   induction l with
   |nil=>intro a;exact ⟨Nat.le_refl _,fun x hx=>by simp at hx⟩
   |cons y l ih=>
    intro a
    obtain ⟨h1,h2⟩:=ih (max a y)
    refine ⟨Nat.le_trans (Nat.le_max_left _ _) h1,fun x hx=>?_⟩
    rcases List.mem_cons.1 hx with rfl|hx
    ·exact Nat.le_trans (Nat.le_max_right _ _) h1
    ·exact h2 x hx
  have hk: ∀x∈kids,ntLevels n x≤m:=fun x hx=>by
   have:=(hmax (kids.map (ntLevels n)) 0).2 _ (List.mem_map_of_mem hx)
   omega
  have hex: ∀(l:List (NT n)),(∀x∈l,ntLevels n x≤m)→ ∃l':List (NT m), ∃hl:l'.length=l.length,l'.map (ntCount m)=l.map (ntCount n)∧l'.map (ntBytes m)=l.map (ntBytes n)∧ ∀k,(hk:k<l.length)→ ∀(w:World) (p:Nat→Prop) (vs:List Value),NodeV w p n l[k] vs→NodeV w p m (l'[k]'(by omega)) vs:=fun l=>by
   induction l with
   |nil=>intro _;exact ⟨[],rfl,rfl,rfl,fun k hk=>by simp at hk⟩
   |cons y l ih=>
    intro hy
    obtain ⟨l',q1,q2,q3,q4⟩:=ih fun x hx=>hy x (List.mem_cons_of_mem _ hx)
    obtain ⟨t',e1,e2,e3⟩:=nt_cut n y m (hy y (List.mem_cons_self ..))
    refine ⟨t'::l',by simp[q1],by rw[List.map_cons,List.map_cons,e1,q2],by rw[List.map_cons,List.map_cons,e2,q3],fun k hk w p vs hv=>?_⟩
    cases k with
    |zero=>exact e3 w p vs hv
    |succ k=>exact q4 k (by simpa using hk) w p vs hv
  obtain ⟨kids',q1,q2,q3,q4⟩:=hex kids hk
  refine ⟨(f,kids'),?_,?_,fun w p vs hv=>?_⟩
  ·show 1+(kids'.map (ntCount m)).sum=1+(kids.map (ntCount n)).sum
   rw[q2]
  ·show nfBytes f+(kids'.map (ntBytes m)).sum=nfBytes f+(kids.map (ntBytes n)).sum
   rw[q3]
  ·obtain ⟨kv,sv,kcs,h1,h2,h3,h4,h5⟩:=hv
   exact ⟨kv,sv,kcs,h1,h2,h3,h4.trans q1.symm,fun k hk hk'=>q4 k (by rw[←q1];exact hk) w p _ (h5 k (by rw[←q1];exact hk) hk')⟩
theorem law_body(n:Nat)(t:NT n)(vs:List Value)(B:Nat)(w:World)(kind:Int)(h:NodeV w (· < B) n t vs)(hB:B≤w.heap.size)(hT:TabsM w)(hc:ntCount n t≤1099511627776)(hz:ntBytes n t≤1099511627776)(hn:n≤1099511627776):
 Calls Tryz.prog 3 #[.agg vs.toArray, .int .i64 kind] w fun e w'=>e= .returned (.bool true)∧Below w.heap.size w w':=by
 obtain ⟨a,a2,l,c,l2,c2,rfl⟩:=h.cellsF
 have HAW:=hQ (fun W:World=>show Calls Tryz.prog 4 #[] W fun e u=>e= .returned (.bool true)∧Below W.heap.size W u from awake_calls W)
 have HF:=hQ (fun (W:World) (hb:Below w.heap.size w W)=>r_few43 n t _ B W (h.below (hb.mono hB)) (Nat.le_trans hB hb.size) hc hz hn)
 have HSZ:=hQ (show smallB n t=true→ ∃x y:Int,(∀W,Below w.heap.size w W→Calls Tryz.prog 6 #[.agg (nfCells (ntF n t) (.slice a l c) (.slice a2 l2 c2)).toArray, .int .i64 kind] W fun e w'=>e= .returned (.tuple #[.int .i64 x, .int .i64 y])∧Below W.heap.size W w')∧
  ∀W,Below w.heap.size w W→Calls Tryz.prog 7 #[.agg (nfCells (ntF n t) (.slice a l c) (.slice a2 l2 c2)).toArray, .int .i64 kind] W fun e w'=>e= .returned (.tuple #[.int .i64 x, .int .i64 y])∧Below W.heap.size W w' from fun hs=>by
  unfold smallB at hs
  simp only[Bool.and_eq_true,decide_eq_true_eq] at hs
  obtain ⟨s1,s2,s3⟩:=hs
  obtain ⟨t',e1,e2,e3⟩:=nt_cut n t 20 s2
  have h':=e3 w _ _ h
  refine ⟨_,_,fun W hb=>p_sizeP 20 t' _ B W kind (h'.below (hb.mono hB)) (Nat.le_trans hB hb.size) (hT.step hb) (by omega) (by omega) (by omega),fun W hb=>r_sizeR 20 t' _ B W kind (h'.below (hb.mono hB)) (Nat.le_trans hB hb.size) (by omega) (by omega) (by omega)⟩)
 have HB0:=hQ (Box.new (ty:=25) w (nfCells (ntF n t) (.slice a l c) (.slice a2 l2 c2)))
 have hb1:=below_alloc1 w (.cells (nfCells (ntF n t) (.slice a l c) (.slice a2 l2 c2)).toArray 25)
 clear h hc hz hT
 generalize smallB n t=sm at*
 generalize ntF n t=f0 at*
 unfold nfCells at HB0 hb1 HF HSZ ⊢
 go_enter Tryz.func3,Tryz.ntmps3
 go_upto_region 1 with (fail)
 have hboxA:Box 25 w.heap.size (nfCells f0 (.slice a l c) (.slice a2 l2 c2)) _:=HB0.out
 generalize w.alloc _=w2 at*
 clear HB0
 go_wp2_with fail
 refine (HAW.out _).mono ?_
 rintro e w3 ⟨rfl,hb3⟩
 have hboxA3:=hboxA.step hb3
 have hbw3:=hb1.trans (hb3.mono hb1.size)
 have hbU:=hboxA3
 unfold nfCells at hbU
 clear hboxA hb1 hb3
 go_wp2_with (first
  |(refine wpList_load_row rfl _ _ rfl w.heap.size _ _ _ rfl hbU Tryz.underlying25 rfl 12 node_size rfl ?_)
  |fail)
 refine (HF.out _ hbw3).mono ?_
 rintro e w4 ⟨rfl,hb4⟩
 have hboxA4:=hboxA3.step hb4
 have hbw4:=hbw3.trans (hb4.mono hbw3.size)
 clear hbU hboxA3 hbw3 hb4
 cases sm
 ·clear HSZ
  go_wp2
  go_ret
  exact ⟨rfl,hbw4⟩
 ·obtain ⟨x,y,hp,hr⟩:=HSZ.out rfl
  have HP:=hQ hp
  have HR:=hQ hr
  have hbU:=hboxA4
  unfold nfCells at hbU
  clear hp hr HSZ
  go_wp2_with (first
   |(refine wpList_load_row rfl _ _ rfl w.heap.size _ _ _ rfl hbU Tryz.underlying25 rfl 12 node_size rfl ?_)
   |fail)
  refine (HP.out _ hbw4).mono ?_
  rintro e w5 ⟨rfl,hb5⟩
  have hboxA5:=hboxA4.step hb5
  have hbw5:=hbw4.trans (hb5.mono hbw4.size)
  clear hbU hboxA4 hbw4 hb5
  have hbU:=hboxA5
  unfold nfCells at hbU
  go_wp2_with (first
   |(refine wpList_load_row rfl _ _ rfl w.heap.size _ _ _ rfl hbU Tryz.underlying25 rfl 12 node_size rfl ?_)
   |fail)
  refine (HR.out _ hbw5).mono ?_
  rintro e w6 ⟨rfl,hb6⟩
  have hbw6:=hbw5.trans (hb6.mono hbw5.size)
  clear hbU hboxA5 hbw5 hb6
  go_wp2
  go_ret
  exact ⟨rfl,hbw6⟩
end Go.Proofs.YtbeccmkegckjjaaGreatDoor
end
