/- Law 43, UdfbuildSizes: a part of the proof. -/
import Derived.Test.YtbeccmkegckjjaaGreatDoorQ14
set_option linter.unusedVariables false
set_option linter.ambiguousOpen false
set_option linter.unusedSimpArgs false
section
namespace Go.Proofs.YtbeccmkegckjjaaGreatDoor
open Go.RowKit
set_option maxRecDepth 1000000
set_option maxHeartbeats 3200000
theorem info_stream:(Tryz.prog.info? 122).map (fun i=>(i.zero,i.size,i.bytes))=some (some (.agg #[.string ⟨#[]⟩, .string ⟨#[]⟩]),2,32):=by kernel_rfl
theorem r_one19(f:NF)(ka a:Option Addr)(kl kc c B:Nat)(w:World)(hB:B≤w.heap.size)(hsl:f.streams.length≤40000)
 (hrow: ∀j,(h:j<f.streams.length)→ ∃b off,a=some ⟨b,off,none⟩∧b<B∧w.cell? ⟨b,off+j*2,none⟩=some (.string f.streams[j].1)∧w.cell? ⟨b,off+j*2+1,none⟩=some (.string f.streams[j].2)):
 Calls Tryz.prog 219 #[.int .i64 3, .agg (nfCells f (.slice ka kl kc) (.slice a f.streams.length c)).toArray, .string f.name] w fun e w'=>
  ∃(sa:Option Addr) (sc:Nat),e= .returned (.agg (nfCells (viewF f) (.slice none 0 0) (.slice sa f.streams.length sc)).toArray)∧RowV w' (Fr w.heap.size w') (.slice sa f.streams.length sc) 2 (strCells f.streams)∧Below w.heap.size w w':=by
 obtain ⟨i0,hi,hz0,hz1,hz2⟩:=info_parts info_stream
 have HB0:=hQ (Box.new (ty:=25) w (nfCells f (.slice ka kl kc) (.slice a f.streams.length c)))
 have hb1:=below_alloc1 w (.cells (nfCells f (.slice ka kl kc) (.slice a f.streams.length c)).toArray 25)
 have HROW:=hQ hrow
 clear hrow
 unfold nfCells at HB0 hb1 ⊢
 go_enter Tryz.func219,Tryz.ntmps219
 go_upto_region 1 with (fail)
 have hbZ:=hb1.alloc hb1.size (.cells nodeZ 25)
 have HBA:=hQ (HB0.out.step (below_alloc1 _ (.cells nodeZ 25)))
 have HBR:=hQ (show Box 25 (w.heap.size+1) nodeZ.toList _ from by
  have h:=Box.new (ty:=25) (w.alloc (.cells #[.string f.name, .int .i64 f.kind, .string f.data, .string f.target, .int .i64 f.mode, .int .i64 f.uid, .int .i64 f.gid, .int .i64 f.time, .int .i64 f.weight, .int .i64 f.hidden, .slice ka kl kc, .slice a f.streams.length c] 25)) nodeZ.toList
  rw[alloc_size] at h
  exact h)
 have hsz2:(World.alloc (World.alloc w (.cells #[.string f.name, .int .i64 f.kind, .string f.data, .string f.target, .int .i64 f.mode, .int .i64 f.uid, .int .i64 f.gid, .int .i64 f.time, .int .i64 f.weight, .int .i64 f.hidden, .slice ka kl kc, .slice a f.streams.length c] 25)) (.cells nodeZ 25)).heap.size=w.heap.size+2:=by rw[alloc_size,alloc_size]
 unfold nodeZ at hbZ HBA HBR hsz2
 generalize (w.alloc _).alloc _=w2 at*
 have hbox2:Box 25 w.heap.size (nfCells f (.slice ka kl kc) (.slice a f.streams.length c)) w2:=HBA.out
 obtain ⟨k0,k1,k2,k3,k4,k5,k6,k7,k8,k9,k10,k11⟩:=hbox2.all
 go_upto_region 3 with (fail)
 have HB7:=hQ (Box.new (ty:=25) w2 (nfCells {viewF f with mode:=0,uid:=0,gid:=0} (.slice none 0 0) (.slice none 0 0)))
 have hb3:=below_alloc1 w2 (.cells (nfCells {viewF f with mode:=0,uid:=0,gid:=0} (.slice none 0 0) (.slice none 0 0)).toArray 25)
 unfold nfCells viewF at HB7 hb3
 dsimp only at HB7 hb3
 generalize w2.alloc _=w3 at*
 have hbox7:Box 25 (w.heap.size+2) (nfCells {viewF f with mode:=0,uid:=0,gid:=0} (.slice none 0 0) (.slice none 0 0)) w3:=by rw[←hsz2];exact HB7.out
 have hbox3:=hbox2.step hb3
 clear k0 k1 k2 k3 k4 k5 k6 k7 k8 k9 k10 k11
 obtain ⟨k0,k1,k2,k3,k4,k5,k6,k7,k8,k9,k10,k11⟩:=hbox3.all
 have q4:=hbox7.cell 4 _ rfl
 have q5:=hbox7.cell 5 _ rfl
 have q6:=hbox7.cell 6 _ rfl
 have f4:=hbox7.frozen 4
 have f5:=hbox7.frozen 5
 have f6:=hbox7.frozen 6
 go_region
 have hbox8:=(((hbox7.setCell 4 (.int .i64 f.mode)).setCell 5 (.int .i64 f.uid)).setCell 6 (.int .i64 f.gid)).step (below_drew (Below.refl _ _))
 have hk8:Kp (fun b=>b=w.heap.size+2) w3 (((w3.setCell ⟨w.heap.size+2,4,none⟩ (.int .i64 f.mode)).setCell ⟨w.heap.size+2,5,none⟩ (.int .i64 f.uid)).setCell ⟨w.heap.size+2,6,none⟩ (.int .i64 f.gid)).drew:=
  (((Kp.setIn w3 _ 4 _).trans (Kp.setIn _ _ 5 _)).trans (Kp.setIn _ _ 6 _)).trans (Kp.of (below_drew (Below.refl _ _)))
 clear k0 k1 k2 k3 k4 k5 k6 k7 k8 k9 k10 k11 q4 q5 q6 f4 f5 f6 HB7 hbox7
 generalize World.drew _=w4 at*
 have hbox7:Box 25 (w.heap.size+2) (nfCells (viewF f) (.slice none 0 0) (.slice none 0 0)) w4:=hbox8
 have hboxA:=hbox3.kp hk8 (by omega)
 have hboxR:=(HBR.out.step hb3).kp hk8 (by omega)
 have hb3':=hbZ.trans (hb3.mono (by omega))
 have hb4:Below w.heap.size w w4:=hb3'.trans (hk8.below (fun b hb=>by omega) hb3'.size)
 have hsz4:w.heap.size+2<w4.heap.size:=hbox7.lt
 clear hbox8 hk8 hbox3 HBR hb3' hbZ HBA HB0 hb1 hbox2 hb3
 have HB4S:=hQ hb4.size
 have c11:=hboxA.cell 11 _ rfl
 have q11:=hbox7.cell 11 _ rfl
 have f11:=hbox7.frozen 11
 have c11':=(hboxA.step (below_alloc1 w4 (.cells #[] 122))).cell 11 _ rfl
 obtain ⟨news,hnews⟩: ∃news:List Value,news=(strCells f.streams).flatten:=⟨_,rfl⟩
 have HN1:=hQ (show news.length=f.streams.length*2 by rw[hnews,flat_len 2 _ (strCells_two _),strCells_len])
 have HN2:=hQ (show ∀u∈news,u.oneCell'=true by rw[hnews];exact strCells_cell _)
 have HN3:=hQ (show 0<f.streams.length→ ∃ad,a=some ad∧ ∀j u,news[j]? =some u→(w4.alloc (.cells #[] 122)).cell? (ad.add j)=some u from fun hpos=>by
  obtain ⟨b0,off0,e0,_⟩:=HROW.out 0 hpos
  refine ⟨_,e0,fun j u hu=>?_⟩
  rw[hnews] at hu
  obtain ⟨k,i,hk,hi2,rfl,hc⟩:=flat_get 2 _ (strCells_two _) j u hu
  rw[strCells_len] at hk
  rw[strCells_get _ _ hk] at hc
  obtain ⟨b,off,e1,hbB,h0,h1⟩:=HROW.out k hk
  rw[e0] at e1
  injection e1 with e1
  injection e1 with e1 e2
  subst e1 e2
  have hadd:(⟨b0,off0,none⟩:Addr).add (k*2+i)=⟨b0,off0+(k*2+i),none⟩:=by unfold Addr.add;split <;> simp_all
  have hbA:=hb4.alloc hb4.size (.cells #[] 122)
  rw[hadd,hbA.cell (Nat.lt_of_lt_of_le hbB hB)]
  match i,hi2,hc with
  |0,_,hc=>simp at hc;subst hc;exact h0
  |1,_,hc=>simp at hc;subst hc;exact h1)
 have HNW:=hQ hnews
 clear hnews
 go_upto_region 6 with (first
  |(at_builtin;refine wpList_append_slice rfl _ _ 23 rfl w4.heap.size 122 i0 (.agg #[.string ⟨#[]⟩, .string ⟨#[]⟩]) 2 32 Tryz.underlying23 hi hz0 hz1 hz2 rfl (by decide) (.slice (some ⟨w4.heap.size,0,none⟩) 0 0) 0 [] rfl (World.ownsRow_made w4 #[] 0 (Nat.le_refl _) (Nat.zero_le _) rfl) a f.streams.length c news rfl ?_ ?_ ?_ ?_ ?_ ?_ ?_)
  |fail)
 ·exact HN1.out
 ·exact HN3.out
 ·exact HN2.out
 ·unfold maxLen;omega
 ·omega
 intro sv w6 hown6 hgrow6
 replace hgrow6:(w4.alloc (.cells #[] 122)).grownBy w6 (some w4.heap.size):=hgrow6
 have hbA:=hb4.alloc hb4.size (.cells #[] 122)
 have hb6:=hbA.grown hgrow6 hbA.size (fun j hj=>by injection hj with hj;have:=hb4.size;omega)
 have hboxA6:=(hboxA.step (below_alloc1 w4 (.cells #[] 122))).grown hgrow6 (fun e=>by injection e;omega)
 have hboxR6:=(hboxR.step (below_alloc1 w4 (.cells #[] 122))).grown hgrow6 (fun e=>by injection e;omega)
 have hbox76:=(hbox7.step (below_alloc1 w4 (.cells #[] 122))).grown hgrow6 (fun e=>by injection e;omega)
 obtain ⟨sa,sc,rfl⟩:=own_slice hown6
 clear hboxA hboxR hbox7 c11 q11 f11 c11' HN1 HN2 HN3 hb4
 have q11:=hbox76.cell 11 _ rfl
 have f11:=hbox76.frozen 11
 have hkS:=Kp.setIn w6 (w.heap.size+2) 11 (.slice sa f.streams.length sc)
 have hbox77:=hbox76.setCell 11 (.slice sa f.streams.length sc)
 have hboxR7:=hboxR6.kp hkS (by omega)
 have hown7:=hown6.kept hkS.grown (by
  rcases h:(Value.slice sa f.streams.length sc).ownBlock with _|k
  ·exact .inl rfl
  ·refine .inr fun e=>?_
   injection e with e
   have:=(hown6.lt k h).1
   omega)
 have hb7:=hb6.trans (hkS.below (B:=w.heap.size) (fun b hb=>by omega) hb6.size)
 go_upto_region 6 with (fail)
 clear q11 f11 hkS hbox76 hboxR6 hown6 hboxA6 hgrow6 hb6
 generalize w6.setCell _ _=w7 at*
 have hboxL:Box 25 (w.heap.size+2) (nfCells (viewF f) (.slice none 0 0) (.slice sa f.streams.length sc)) w7:=hbox77
 go_wp2_with (first
  |(refine wpList_load_row rfl _ _ rfl (w.heap.size+2) _ _ _ rfl hboxL Tryz.underlying25 rfl 12 node_size rfl ?_)
  |(refine wpList_store_row rfl _ _ _ rfl (w.heap.size+1) _ _ (nfCells (viewF f) (.slice none 0 0) (.slice sa f.streams.length sc)).toArray rfl rfl hboxR7 12 node_size rfl rfl (node_one _ _ _ _ _ _ _) ?_)
  |go_in)
 have hkR:=Kp.setRow w7 (w.heap.size+1) (nfCells (viewF f) (.slice none 0 0) (.slice sa f.streams.length sc)).toArray
 have hboxF:=hboxR7.setRow (nfCells (viewF f) (.slice none 0 0) (.slice sa f.streams.length sc))
 have hown8:=hown7.kept hkR.grown (by
  rcases h:(Value.slice sa f.streams.length sc).ownBlock with _|k
  ·exact .inl rfl
  ·refine .inr fun e=>?_
   injection e with e
   have:=(hown7.lt k h).1
   omega)
 rw[HNW.out] at hown8
 refine bodyPost_ret (results_cell_row Tryz.results219 _ _ (w.heap.size+1) _ _ _ _ rfl hboxF Tryz.underlying25 rfl node_size) rfl ⟨sa,sc,rfl,?_,?_⟩
 ·have h:=RowV.of_own (strCells_two _) (strCells_len _).symm hown8
  exact h.fr_base HB4S.out
 ·exact hb7.trans (hkR.below (fun b hb=>by omega) hb7.size)
end Go.Proofs.YtbeccmkegckjjaaGreatDoor
end
