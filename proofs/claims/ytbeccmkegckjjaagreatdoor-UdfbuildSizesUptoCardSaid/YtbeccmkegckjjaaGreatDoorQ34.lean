/- Law 43, UdfbuildSizes: a part of the proof. -/
import Derived.Test.YtbeccmkegckjjaaGreatDoorQ30
import Derived.Deep.DeepCutAuto
import Derived.Deep.RegionWith
section
namespace Go.Proofs.YtbeccmkegckjjaaGreatDoor
open Go.RowKit
set_option maxRecDepth 1000000
set_option maxHeartbeats 25600000
def planZ:Array Value:= #[.slice none 0 0, .slice none 0 0, .slice none 0 0, .int .i64 0]
theorem plan_size:(Tryz.prog.info? 70).map (·.size)=some 4:=by kernel_rfl
theorem place_size:(Tryz.prog.info? 132).map (·.size)=some 4:=by kernel_rfl
theorem part_size:(Tryz.prog.info? 129).map (·.size)=some 2:=by kernel_rfl
theorem info_place:(Tryz.prog.info? 132).map (fun i=>(i.zero,i.size,i.bytes))=some (some (.agg #[.int .i64 0, .int .i64 0, .int .i64 0, .slice none 0 0]),4,48):=by kernel_rfl
theorem info_part:(Tryz.prog.info? 129).map (fun i=>(i.zero,i.size,i.bytes))=some (some (.agg #[.int .i64 0, .int .i64 0]),2,16):=by kernel_rfl
theorem planZ_one:planZ.all (·.oneCell')=true:=by unfold planZ;simp[Value.oneCell']
theorem plan_one(a b d:Option Addr)(l c l2 c2 l3 c3:Nat)(k:Int):(#[.slice a l c, .slice b l2 c2, .slice d l3 c3, .int .i64 k]:Array Value).all (·.oneCell')=true:=by simp[Value.oneCell']
theorem place_one(d:Option Addr)(l c:Nat)(x y z:Int):(#[.int .i64 x, .int .i64 y, .int .i64 z, .slice d l c]:Array Value).all (·.oneCell')=true:=by simp[Value.oneCell']
theorem FlatR.node{T:TypeId}{tail:List Value→Value→Prop}{B base:Nat}{C:Nat→Prop}{w:World}{g m cap:Nat}{es:List FE}{cs:List (List Value)}{kvs:List Value}(h:FlatR T tail B base C w (.slice (some ⟨g,0,none⟩) m cap) es cs kvs)(j:Nat)(hj:j<es.length):
 ∃(a:Option Addr) (l c:Nat) (sa:Option Addr) (sc:Nat),(∀q x,(nfCells es[j].f (.slice a l c) (.slice sa es[j].f.streams.length sc))[q]? =some x→w.cell? ⟨g,j*16+q,none⟩=some x)∧
  ∀i,(hi:i<es[j].f.streams.length)→ ∃b off,sa=some ⟨b,off,none⟩∧b<B∧w.cell? ⟨b,off+i*2+1,none⟩=some (.string es[j].f.streams[i].2):=by
 have hlc:=h.lc
 have hlk:=h.lk
 obtain ⟨nkv,nsv,kcs,tl,e1, -, -,⟨sa,sc,rfl,hs⟩,⟨ka,kc,rfl, -⟩, -⟩:=h.ent j hj (by omega) (by omega)
 refine ⟨ka,kcs.length,kc,sa,sc,fun q x hq=>?_,fun i hi=>?_⟩
 ·rw[strCells_len] at e1
  have hlt:q<12:=(List.getElem?_eq_some_iff.1 hq).1
  rw[h.at j q hj (by omega) (by omega),e1,List.getElem?_append_left (by exact hlt)]
  exact hq
 ·obtain ⟨b,off,q1,q2,q3⟩:=hs i (by rw[strCells_len];exact hi)
  refine ⟨b,off,q1,q2,q3 1 _ ?_⟩
  rw[strCells_get _ _ hi];rfl
theorem r_plan(n:Nat)(t:NT n)(vs:List Value)(B:Nat)(w:World)(h:NodeV w (· < B) n t vs)(hB:B≤w.heap.size)(hc:ntCount n t≤64)(hz:ntBytes n t≤65536)(hn:n≤900):
 Calls Tryz.prog 17 #[.agg vs.toArray] w fun e w'=>(treeOK n t=true→ ∃(na pa ea:Option Addr) (nl nc pl pc ec:Nat),e= .returned (.tuple #[.agg #[.slice na nl nc, .slice pa pl pc, .slice ea (itemsTo (fl n (ntView n t) 0) (fl n (ntView n t) 0).length) ec, .int .i64 (cntTo (fl n (ntView n t) 0) (fl n (ntView n t) 0).length:Int)], .int .i64 0]))∧
  (treeOK n t=false→e= .returned (.tuple #[.agg planZ, .int .i64 1]))∧Below w.heap.size w w':=by
 obtain ⟨a,a2,l,c,l2,c2,rfl⟩:=h.cellsF
 obtain ⟨i0,hi0,hx0,hx1,hx2⟩:=info_parts info_place
 obtain ⟨i1,hi1,hy0,hy1,hy2⟩:=info_parts info_part
 obtain ⟨i2,hi2,hz0,hz1,hz2⟩:=info_parts info_int
 have HV:=hQ (fun (W:World) (hb:Below w.heap.size w W)=>r_view19 n t _ B W (h.below (hb.mono hB)) (Nat.le_trans hB hb.size) hc hz hn)
 have HGOOD:=hQ (show treeOK n t=true→ ∀e∈fl n (ntView n t) 0,GoodE e from fun hk=>fl_good n t 1 0 (Nat.le_refl _) hk hc hz)
 have HFOK:=hQ (fl_ok n (ntView n t) 0)
 have hvc:=Nat.le_trans (ntCount_view n t) hc
 have HLEN:=hQ (show (fl n (ntView n t) 0).length≤64 by rw[fl_len];exact hvc)
 have HFL:=hQ (fun (vs':List Value) (W:World) (B':Nat) (hv:NodeV W (· < B') n (ntView n t) vs') (hB':B'≤W.heap.size)=>r_flatten n (ntView n t) vs' B' W.heap.size (fun _=>False) W (.slice none 0 0) [] [] [] ⟨#[]⟩ 0 hv hB' (Nat.le_refl _) (FlatR.nil _ _ _ _ _ _) (fun b hb=>hb.elim) (by simpa using hvc) (Nat.le_trans (ntBytes_view n t) hz) (by show 0+n*70000≤_;omega) (by omega))
 have HB0:=hQ (Box.new (ty:=25) w (nfCells (ntF n t) (.slice a l c) (.slice a2 l2 c2)))
 have hb1:=below_alloc1 w (.cells (nfCells (ntF n t) (.slice a l c) (.slice a2 l2 c2)).toArray 25)
 clear h hc hz hvc
 generalize treeOK n t=ok at*
 generalize ntF n t=f0 at*
 generalize hes:fl n (ntView n t) 0=es at*
 have HES:=hQ hes
 clear hes
 unfold nfCells at HB0 hb1 HV ⊢
 go_enter Tryz.func17,Tryz.ntmps17
 go_upto_region 1 with (fail)
 have hbZ:=hb1.alloc hb1.size (.cells planZ 70)
 have HBA:=hQ (HB0.out.step (below_alloc1 _ (.cells planZ 70)))
 have HBR:=hQ (show Box 70 (w.heap.size+1) planZ.toList _ from by
  have h:=Box.new (ty:=70) (w.alloc (.cells #[.string f0.name, .int .i64 f0.kind, .string f0.data, .string f0.target, .int .i64 f0.mode, .int .i64 f0.uid, .int .i64 f0.gid, .int .i64 f0.time, .int .i64 f0.weight, .int .i64 f0.hidden, .slice a l c, .slice a2 l2 c2] 25)) planZ.toList
  rw[alloc_size] at h
  exact h)
 unfold planZ at hbZ HBA HBR
 generalize (w.alloc _).alloc _=w2 at*
 have hboxA:Box 25 w.heap.size (nfCells f0 (.slice a l c) (.slice a2 l2 c2)) w2:=HBA.out
 have hboxR:Box 70 (w.heap.size+1) planZ.toList w2:=HBR.out
 clear HBA HBR HB0 hb1
 have hbU:=hboxA
 unfold nfCells at hbU
 go_wp2_with (first
  |(refine wpList_load_row rfl _ _ rfl w.heap.size _ _ _ rfl hbU Tryz.underlying25 rfl 12 node_size rfl ?_)
  |fail)
 refine (HV.out _ hbZ).mono ?_
 rintro e w3 ⟨hvt,hvf,hb3⟩
 have hboxR3:=hboxR.step hb3
 have hbw3:=hbZ.trans (hb3.mono hbZ.size)
 have hltR:=hboxR3.lt
 clear hboxA hboxR hbU hbZ hb3 HV
 cases ok
 ·have he:=hvf rfl
  subst he
  clear hvt hvf HGOOD HFL HFOK HLEN
  go_upto_region 2 with (first
   |(refine wpList_store_row rfl _ _ _ rfl w3.heap.size _ nodeZ #[.string ⟨#[]⟩, .int .i64 0, .string ⟨#[]⟩, .string ⟨#[]⟩, .int .i64 0, .int .i64 0, .int .i64 0, .int .i64 0, .int .i64 0, .int .i64 0, .slice none 0 0, .slice none 0 0] rfl rfl (heap_alloc_last _ _) 12 node_size rfl rfl nodeZ_one ?_)
   |go_in)
  have hst:Below w3.heap.size w3 ((w3.alloc (.cells nodeZ 25)).setRow w3.heap.size nodeZ):=by
   have h:=(box_store 25 w3 nodeZ nodeZ.toList).2
   rwa [Array.toArray_toList] at h
  unfold nodeZ at hst
  generalize World.setRow _ _ _=w4 at hst ⊢
  have hboxR4:=hboxR3.step hst
  have hbw4:=hbw3.trans (hst.mono hbw3.size)
  clear hst
  have hboxF:=hboxR4.setRow planZ.toList
  have hkF:=Kp.setRow w4 (w.heap.size+1) planZ.toList.toArray
  go_wp2_with (first
   |(refine wpList_store_row rfl _ _ _ rfl (w.heap.size+1) _ _ planZ rfl rfl hboxR4 4 plan_size rfl rfl planZ_one ?_)
   |go_in)
  refine bodyPost_ret (v:= .tuple #[.agg planZ, .int .i64 1]) (results_cell2 (g:=w.heap.size+1) (t:=70) (cs:=planZ) Tryz.results17 _ _ _ _ rfl hboxF Tryz.underlying70 rfl plan_size) rfl ?_
  have hf:=hbw4.trans (hkF.below (fun b hb=>by omega) hbw4.size)
  first
   |exact ⟨fun h=>by cases h,fun _=>rfl,hf⟩
   |exact ⟨fun h=>by cases h,rfl,hf⟩
   |exact ⟨rfl,hf⟩
 ·obtain ⟨vs',he,hnv⟩:=hvt rfl
  subst he
  obtain ⟨b1,b2,d1,e1,d2,e2,rfl⟩:=hnv.cellsF
  have HNV:=hQ hnv.fr_lt
  have HG:=hQ (HGOOD.out rfl)
  clear hvt hvf hnv HGOOD
  generalize ntF n (ntView n t)=f1 at*
  go_upto_region 2 with (first
   |(refine wpList_store_row rfl _ _ _ rfl w3.heap.size _ nodeZ (nfCells f1 (.slice b1 d1 e1) (.slice b2 d2 e2)).toArray rfl rfl (heap_alloc_last _ _) 12 node_size rfl rfl (node_one _ _ _ _ _ _ _) ?_)
   |go_in)
  have hst:=box_store 25 w3 nodeZ (nfCells f1 (.slice b1 d1 e1) (.slice b2 d2 e2))
  unfold nodeZ at hst
  generalize World.setRow _ _ _=w4 at hst ⊢
  obtain ⟨hboxV,hb4⟩:=hst
  have hboxR4:=hboxR3.step hb4
  have hbw4:=hbw3.trans (hb4.mono hbw3.size)
  have HFL4:=hQ (HFL.out _ w4 w3.heap.size (HNV.out.below (hb4)) hb4.size)
  have hlt4:=hboxR4.lt
  have hbU:=hboxV
  unfold nfCells at hbU HFL4
  clear HFL HNV hboxR3 hbw3
  go_upto_region 4 with (fail)
  go_wp2_with (first
   |(refine wpList_load_row rfl _ _ rfl w3.heap.size _ _ _ rfl hbU Tryz.underlying25 rfl 12 node_size rfl ?_)
   |fail)
  refine HFL4.out.mono ?_
  rintro e w5 ⟨nv,cs,kvs,rfl,hfr5,hk5⟩
  rw[List.nil_append] at hfr5
  have hb5:Below w4.heap.size w4 w5:=hk5.below (fun b hb=>hb.elim) (Nat.le_refl _)
  obtain ⟨na,nc,rfl⟩:=own_slice hfr5.own
  have hboxR5:=hboxR4.step hb5
  have hbw5:=hbw4.trans (hb5.mono hbw4.size)
  clear hbU hboxV HFL4 hk5 hboxR4
  go_upto_region 5 with (first
   |(refine wpList_store_row rfl _ _ _ rfl w5.heap.size _ planZ #[.slice na es.length nc, .slice none 0 0, .slice none 0 0, .int .i64 0] rfl rfl (heap_alloc_last _ _) 4 plan_size rfl rfl (plan_one _ _ _ _ _ _ _ _ _ _) ?_)
   |go_in)
  have hst:=box_store 70 w5 planZ [.slice na es.length nc, .slice none 0 0, .slice none 0 0, .int .i64 0]
  unfold planZ at hst
  generalize hw6:World.setRow _ _ _=w6 at hst ⊢
  obtain ⟨hboxP,hb6⟩:=hst
  have hlt6:=hboxP.lt
  have hps0:PS w6 w6 w5.heap.size (.slice na es.length nc) (.slice none 0 0) (.slice none 0 0) 0 (itemsTo es 0) (cntTo es 0):=
   ⟨hlt6,Kp.refl _ _,by simpa[cntTo] using hboxP,⟨[],World.ownsRow_nil _ _ _ _⟩,⟨[],by simpa[itemsTo] using World.ownsRow_nil _ _ _ _⟩⟩
  have hfr6:=hfr5.kp (Kp.of (C:=fun _=>False) hb6) (fun b hb=>hb.elim) (Nat.le_trans hb4.size hb5.size)
  have HFR:=hQ (fun (W:World) (hk:Kp (fun b=>b=w5.heap.size) w6 W)=>hfr6.kp hk (fun b hb=>⟨fun hc=>hc.elim (fun h=>h.elim) fun h=>by omega,by have:=hb4.size;have:=hb5.size;omega⟩) (by have:=hb4.size;have:=hb5.size;have:=hb6.size;omega))
  have HRES:=hQ (fun (W:World) (hk:Kp (fun b=>b=w5.heap.size) w6 W)=>(hboxR5.step hb6).kp hk (by have:=hboxR5.lt;omega))
  have HBW:=hQ (fun (W:World) (hk:Kp (fun b=>b=w5.heap.size) w6 W)=>(hbw5.trans (hb6.mono hbw5.size)).trans (hk.below (B:=w.heap.size) (fun b hb=>by have:=hbw5.size;omega) (by have:=hbw5.size;have:=hb6.size;omega)))
  have HB3:=hQ (show w3.heap.size≤w5.heap.size by have:=hb4.size;have:=hb5.size;omega)
  generalize w5.heap.size=gp at*
  clear hfr5 hfr6 hboxR5 hbw5 hboxP hb6 hb5 hb4 hw6 hbw4 hlt4
  go_wp2_with fail
  go_loopw [7] (fun i wr=> ∃(k:Nat) (pv ev:Value),k≤es.length∧i= .int .i64 k∧PS w6 wr gp (.slice na es.length nc) pv ev k (itemsTo es k) (cntTo es k)) (fun i _=>es.length-(intOf i).toNat)
  case atStart=>exact ⟨0,_,_,Nat.zero_le _,rfl,hps0⟩
  case round=>
   obtain ⟨k,pv,ev,hk,rfl,hps⟩:=hrel
   clear hps0
   have p0:=hps.box.cell 0 _ rfl
   by_cases hlt:k<es.length
   ·have hki:(k:Int)<es.length:=by omega
    have hfr:=HFR.out wr hps.frame
    obtain ⟨g,cap,hnaq,hg1,hg2⟩:=hfr.own.form (by omega)
    injection hnaq with hna _ hcap
    subst hna
    subst hcap
    obtain ⟨a',l',c',sa,sc,hcell,hstr⟩:=hfr.node k hlt
    have hlen:=HLEN.out
    have hgd:=HG.out _ (List.getElem_mem hlt)
    have HGD:=hQ hgd
    have HSIZE:=hQ (fun (W:World) (hk:Kp (fun b=>b=gp) w6 W)=>r_size43 _ _ _ W _ es _ _ k (HFR.out W hk) hlt (HFOK.out _ (List.getElem_mem hlt)) hgd.names hgd.tgt hlen hgd.kids)
    have HCT:=hQ (show cntTo es (k+1)=cntTo es k+(1+selfLen es[k].f es[k].kids+(if es[k].f.streams.length=0 then 0 else 1+strTo es[k].f.streams es[k].f.streams.length)) from cntTo_succ es k hlt)
    have HIT:=hQ (show itemsTo es (k+1)=itemsTo es k+(1+(if es[k].f.streams.length=0 then 0 else 1+es[k].f.streams.length)) from itemsTo_succ es k hlt)
    have hcl:=contLen_le hgd
    have hsl:=selfLen_le hgd
    have hcb:=cntTo_le es HG.out k (by omega)
    have hib:=itemsTo_le es HG.out k (by omega)
    have hss:=hgd.strs
    have HSELF:=hQ (show selfLen es[k].f es[k].kids=if es[k].f.kind=1 then 0 else outside (contLen es[k].f es[k].kids) from rfl)
    have hc64:(cntTo es k:Int)≤25600000:=by omega
    have hi64:(itemsTo es k:Int)≤384:=by omega
    have hs64:(selfLen es[k].f es[k].kids:Int)≤60000:=by omega
    have HOUT:=hQ (fun (n:Nat) (W:World) (h:n<4294967296)=>r_outside n W h)
    have HSTR:=hQ (show ∀i,(hi:i<es[k].f.streams.length)→ ∃b off,sa=some ⟨b,off,none⟩∧b<gp∧w6.cell? ⟨b,off+i*2+1,none⟩=some (.string es[k].f.streams[i].2) from fun i hi=>by
     obtain ⟨b,off,e1,e2,e3⟩:=hstr i hi
     have h1:=HB3.out
     have h2:=hps.lt
     exact ⟨b,off,e1,by omega,(hps.frame.cell (show b<w6.heap.size by omega) (show ¬b=gp by omega) _).symm.trans e3⟩)
    have HDATA:=hQ hgd.data
    have HCLZ:=hQ hcl
    clear hfr hcl hcb hib hgd hstr
    generalize hCN:cntTo es k=cn at*
    generalize hIT:itemsTo es k=it at*
    generalize hSF:selfLen es[k].f es[k].kids=sf at*
    clear hCN hIT
    have HSF:=hQ hSF
    clear hSF
    generalize es[k].f=f at*
    generalize contLen f es[k].kids=cl at*
    have hbN: ∀j x,(nfCells f (.slice a' l' c') (.slice sa f.streams.length sc))[j]? =some x→wr.cell? ⟨g,0+k*16+j,none⟩=some x:=fun j x hx=>by rw[Nat.zero_add];exact hcell j x hx
    go_upto_region 9 with (first
     |(refine wpList_load_at rfl _ _ rfl g (k*16) (nfCells f (.slice a' l' c') (.slice sa f.streams.length sc)) _ rfl hcell Tryz.underlying25 rfl node_size ?_)
     |(refine wpList_store_row rfl _ _ _ rfl wr.heap.size _ nodeZ (nfCells f (.slice a' l' c') (.slice sa f.streams.length sc)).toArray rfl rfl (heap_alloc_last _ _) 12 node_size rfl rfl (node_one _ _ _ _ _ _ _) ?_)
     |go_in)
    have hst:=box_store 25 wr nodeZ (nfCells f (.slice a' l' c') (.slice sa f.streams.length sc))
    unfold nodeZ at hst
    generalize World.setRow _ _ _=w7 at hst ⊢
    obtain ⟨hboxN,hb7⟩:=hst
    have hps7:=hps.step hb7
    have p3:=hps7.box.cell 3 _ rfl
    have hgn:w6.heap.size≤wr.heap.size:=hps.frame.size
    clear hps p0 hcell hbN hb7
    generalize hGN:wr.heap.size=gn at*
    go_upto_region 10 with (first
     |(refine wpList_store_row rfl _ _ _ rfl w7.heap.size _ #[.int .i64 0, .int .i64 0, .int .i64 0, .slice none 0 0] #[.int .i64 (cn:Int), .int .i64 0, .int .i64 0, .slice none 0 0] rfl rfl (heap_alloc_last _ _) 4 place_size rfl rfl (place_one _ _ _ _ _ _) ?_)
     |go_in)
    have hst:=box_store 132 w7 #[.int .i64 0, .int .i64 0, .int .i64 0, .slice none 0 0] [.int .i64 (cn:Int), .int .i64 0, .int .i64 0, .slice none 0 0]
    generalize World.setRow _ _ _=w8 at hst ⊢
    obtain ⟨hboxX,hb8⟩:=hst
    have hps8:=hps7.step hb8
    have hboxN8:=hboxN.step hb8
    have hgx:gn<w7.heap.size:=hboxN.lt
    have hpvx: ∀b,pv.ownBlock=some b→b<w7.heap.size:=fun b hb=>by
     obtain ⟨xs,hx⟩:=hps7.places
     exact (hx.lt b hb).2
    clear hps7 p3 hboxN hb8 hGN
    generalize hGX:w7.heap.size=gx at*
    clear hGX
    have n1:=hboxN8.cell 1 _ rfl
    go_upto_if 42 with (fail)
    go_cut [] (fun wx=>PS w6 wx gp (.slice (some ⟨g,0,none⟩) es.length nc) pv ev k it cn∧Box 25 gn (nfCells f (.slice a' l' c') (.slice sa f.streams.length sc)) wx∧Box 132 gx [.int .i64 (cn:Int), .int .i64 (sf:Int), .int .i64 0, .slice none 0 0] wx)
    case first=>
     by_cases h1:f.kind=1
     ·have k1:=eqB h1
      have e1:sf=0:=by rw[HSELF.out,if_pos h1]
      subst e1
      clear h1
      go_wp2_with fail
      go_meet
      case rel=>exact ⟨hps8,hboxN8,hboxX⟩
     ·have k1:=neB h1
      have e1:sf=outside cl:=by rw[HSELF.out,if_neg h1]
      have p0:=hps8.box.cell 0 _ rfl
      have HS8:=hQ (HSIZE.out _ hps8.frame)
      have hclz:cl<4294967296:=by have:=HCLZ.out;omega
      have HO8:=hQ (fun W=>HOUT.out cl W hclz)
      rw[←e1] at HO8
      clear h1 hclz e1
      go_wp2_with fail
      refine HS8.out.mono ?_
      rintro e w9 ⟨rfl,hb9⟩
      have hps9:=hps8.step hb9
      have hboxN9:=hboxN8.step hb9
      have hboxX9:=hboxX.step hb9
      go_wp2_with fail
      refine (HO8.out _).mono ?_
      rintro e w9' ⟨rfl,rfl⟩
      have x1:=hboxX9.cell 1 _ rfl
      have f1:=hboxX9.frozen 1
      have hk9:=Kp.setIn w9' gx 1 (.int .i64 (sf:Int))
      have hevx:=fun b hb=>hboxX9.ne_own (hps9.entries.choose_spec) (by decide) b hb
      have hpsA:=hps9.kp hk9 (fun b hb=>⟨by omega,fun e=>by have:=hpvx b e;omega,fun e=>hevx b e hb⟩)
      have hboxNA:=hboxN9.kp hk9 (by omega)
      have hboxXA:=hboxX9.setCell 1 (.int .i64 (sf:Int))
      clear hps9 hboxN9 hboxX9 hk9 hevx hps8 hboxN8 hboxX
      go_wp2_with fail
      go_meet
      case rel=>exact ⟨hpsA,hboxNA,hboxXA⟩
    case rest=>
     clear hboxX
     obtain ⟨hps,hboxN,hboxX⟩:=hcut
     clear hps8 hboxN8 n1
     obtain ⟨ys,hy⟩:=hps.entries
     obtain ⟨ea,ec,rfl⟩:=own_slice hy
     have p2:=hps.box.cell 2 _ rfl
     have p3:=hps.box.cell 3 _ rfl
     have HPS:=hQ hps
     have HY:=hQ hy
     have HBN:=hQ hboxN
     have HBX:=hQ hboxX
     clear hps hy hboxN hboxX
     go_upto_region 13 with (first
      |(at_builtin;refine wpList_append_own _ rfl _ _ 34 rfl w6.heap.size 3 i2 (.int .i64 0) 1 8 Tryz.underlying34 hi2 hz0 hz1 hz2 rfl (by decide) (.slice ea it ec) it ys rfl ?_ ⟨wc.heap.size,0,none⟩ 1 1 [.int .i64 (cn:Int)] rfl rfl ?_ ?_ ?_ ?_ ?_ ?_)
      |fail)
     ·exact own_below' HY.out (below_alloc1 _ _)
     ·rfl
     ·unfold maxLen;omega
     ·omega
     ·exact Nat.le_trans HPS.out.frame.size (Nat.le_succ _)
     intro ev' w9 hown9 hgrow9 _
     obtain ⟨ea9,ec9,rfl⟩:=own_slice hown9
     obtain ⟨q2,f2,hpsA,hkA⟩:=PS.entry HPS.out HY.out (below_alloc1 wc _) hown9 hgrow9
     obtain ⟨wA,hwA⟩: ∃wA,wA=w9.setCell ⟨gp,2,none⟩ (.slice ea9 (it+1) ec9):=⟨_,rfl⟩
     rw[←hwA] at hpsA hkA
     have hgpl:=HPS.out.lt
     have hbN:=HBN.out.kp hkA (fun hc=>hc.elim (fun h=>by omega) fun h=>HBN.out.ne_own HY.out (by decide) gn h rfl)
     have hbX:=HBX.out.kp hkA (fun hc=>hc.elim (fun h=>by omega) fun h=>HBX.out.ne_own HY.out (by decide) gx h rfl)
     have HWA:=hQ hwA
     clear hwA hown9 hgrow9 hkA HPS HY HBN HBX p2 p3
     go_upto_region 13 with (fail)
     rw[←HWA.out]
     clear q2 f2 HWA
     have q3:=hpsA.box.cell 3 _ rfl
     have f3:=hpsA.box.frozen 3
     have x1:=hbX.cell 1 _ rfl
     have hcc:((cn+(1+sf):Nat):Int)=(cn:Int)+(1+(sf:Int)):=by omega
     have hpsB:=hpsA.count (cn+(1+sf))
     have hkB:=Kp.setIn wA gp 3 (.int .i64 ((cn+(1+sf):Nat):Int))
     have hbN2:=hbN.kp hkB (by omega)
     have hbX2:=hbX.kp hkB (by omega)
     rw[hcc] at hpsB hbN2 hbX2
     clear hkB hpsA hbN hbX hcc
     go_upto_region 14 with (fail)
     clear q3 f3 x1
     generalize wA.setCell _ _=wB at*
     have n11:=hbN2.cell 11 _ rfl
     have HPS:=hQ hpsB
     have HBN:=hQ hbN2
     have HBX:=hQ hbX2
     clear hpsB hbN2 hbX2
     go_upto_if 68 with (fail)
     go_cut [] (fun wx=> ∃(ev':Value) (m c:Nat),(m=it+(1+(if f.streams.length=0 then 0 else 1+f.streams.length))∧c=cn+(1+sf+(if f.streams.length=0 then 0 else 1+strTo f.streams f.streams.length)))∧PS w6 wx gp (.slice (some ⟨g,0,none⟩) es.length nc) pv ev' k m c∧
      ∃(dir:Int) (xa:Option Addr) (xl xc:Nat),Box 132 gx [.int .i64 (cn:Int), .int .i64 (sf:Int), .int .i64 dir, .slice xa xl xc] wx)
     case first=>
      by_cases hs0:f.streams.length=0
      ·have hs1: ¬(0:Int)<f.streams.length:=by omega
       have hif:(if f.streams.length=0 then 0 else 1+strTo f.streams f.streams.length)=0:=if_pos hs0
       have hif2:(if f.streams.length=0 then 0 else 1+f.streams.length)=0:=if_pos hs0
       have HR:=hQ (show ∃(ev':Value) (m c:Nat),(m=it+(1+(if f.streams.length=0 then 0 else 1+f.streams.length))∧c=cn+(1+sf+(if f.streams.length=0 then 0 else 1+strTo f.streams f.streams.length)))∧PS w6 wB gp (.slice (some ⟨g,0,none⟩) es.length nc) pv ev' k m c∧
        ∃(dir:Int) (xa:Option Addr) (xl xc:Nat),Box 132 gx [.int .i64 (cn:Int), .int .i64 (sf:Int), .int .i64 dir, .slice xa xl xc] wB from ⟨_,it+1,cn+(1+sf),⟨by rw[hif2],by rw[hif];omega⟩,HPS.out,_,_,_,_,HBX.out⟩)
       clear hs0 hif hif2
       go_wp2_with fail
       go_meet
       case rel=>exact HR.out
      ·have hs1:(0:Int)<f.streams.length:=by omega
       have HIF:=hQ (show (if f.streams.length=0 then 0 else 1+strTo f.streams f.streams.length)=1+strTo f.streams f.streams.length from if_neg hs0)
       have HIF2:=hQ (show (if f.streams.length=0 then 0 else 1+f.streams.length)=1+f.streams.length from if_neg hs0)
       clear hs0
       have p3:=HPS.out.box.cell 3 _ rfl
       have x2:=HBX.out.cell 2 _ rfl
       have fx2:=HBX.out.frozen 2
       have hgpl:=HPS.out.lt
       have hcB:((cn+(1+sf):Nat):Int)=(cn:Int)+(1+(sf:Int)):=by omega
       have hkC:=Kp.setIn wB gx 2 (.int .i64 ((cn:Int)+(1+(sf:Int))))
       have hpsC:=HPS.out.kp hkC (fun b hb=>⟨by omega,fun e=>by have:=hpvx b e;omega,fun e=>HBX.out.ne_own (HPS.out.entries.choose_spec) (by decide) b e hb⟩)
       have hbNC:=HBN.out.kp hkC (by omega)
       have hbXC:=HBX.out.setCell 2 (.int .i64 ((cn:Int)+(1+(sf:Int))))
       rw[hcB] at p3
       clear hkC hcB
       go_upto_region 16 with (fail)
       clear p3 x2 fx2 HPS HBN HBX n11
       generalize wB.setCell _ _=wC at*
       obtain ⟨ysC,hyC⟩:=hpsC.entries
       have p2:=hpsC.box.cell 2 _ rfl
       have p3:=hpsC.box.cell 3 _ rfl
       have HPS:=hQ hpsC
       have HY:=hQ hyC
       have HBN:=hQ hbNC
       have HBX:=hQ hbXC
       have hcB:((cn+(1+sf):Nat):Int)=(cn:Int)+(1+(sf:Int)):=by omega
       rw[hcB] at p3
       clear hpsC hyC hbNC hbXC hcB
       go_upto_region 17 with (first
        |(at_builtin;refine wpList_append_own _ rfl _ _ 34 rfl w6.heap.size 3 i2 (.int .i64 0) 1 8 Tryz.underlying34 hi2 hz0 hz1 hz2 rfl (by decide) (.slice ea9 (it+1) ec9) (it+1) ysC rfl ?_ ⟨wC.heap.size,0,none⟩ 1 1 [.int .i64 ((cn:Int)+(1+(sf:Int)))] rfl rfl ?_ ?_ ?_ ?_ ?_ ?_)
        |fail)
       ·exact own_below' HY.out (below_alloc1 _ _)
       ·exact new_cells _ _ _
       ·intro u hu;rw[List.mem_singleton] at hu;rw[hu];rfl
       ·unfold maxLen;omega
       ·omega
       ·exact Nat.le_trans HPS.out.frame.size (below_alloc1 _ _).size
       intro evD wD hownD hgrowD _
       obtain ⟨eaD,ecD,rfl⟩:=own_slice hownD
       obtain ⟨q2,f2,hpsD,hkD⟩:=PS.entry HPS.out HY.out (below_alloc1 wC _) hownD hgrowD
       obtain ⟨wE,hwE⟩: ∃wE,wE=wD.setCell ⟨gp,2,none⟩ (.slice eaD (it+1+1) ecD):=⟨_,rfl⟩
       rw[←hwE] at hpsD hkD
       have hbND:=HBN.out.kp hkD (fun hc=>hc.elim (fun h=>by omega) fun h=>HBN.out.ne_own HY.out (by decide) gn h rfl)
       have hbXD:=HBX.out.kp hkD (fun hc=>hc.elim (fun h=>by omega) fun h=>HBX.out.ne_own HY.out (by decide) gx h rfl)
       have HWE:=hQ hwE
       clear hwE hownD hgrowD hkD HPS HY HBN HBX p2 p3
       go_upto_region 17 with (fail)
       rw[←HWE.out]
       clear q2 f2 HWE
       have q3:=hpsD.box.cell 3 _ rfl
       have f3:=hpsD.box.frozen 3
       have hcB:((cn+(1+sf):Nat):Int)=(cn:Int)+(1+(sf:Int)):=by omega
       have hcD:((cn+(1+sf)+1:Nat):Int)=(cn:Int)+(1+(sf:Int))+1:=by omega
       have hpsE:=hpsD.count (cn+(1+sf)+1)
       have hkE:=Kp.setIn wE gp 3 (.int .i64 ((cn+(1+sf)+1:Nat):Int))
       have hbNE:=hbND.kp hkE (by omega)
       have hbXE:=hbXD.kp hkE (by omega)
       rw[hcD] at hpsE hbNE hbXE
       rw[hcB] at q3
       clear hkE hpsD hbND hbXD hcB hcD
       go_upto_region 18 with (fail)
       clear q3 f3
       generalize wE.setCell _ _=wG at*
       have HPS:=hQ hpsE
       have HBN:=hQ hbNE
       have HBX:=hQ hbXE
       clear hpsE hbNE hbXE
       go_wp2_with fail
       go_loopw [10] (fun i wr2=> ∃(j m c:Nat) (ev:Value) (dir:Int) (xa:Option Addr) (xc:Nat),j≤f.streams.length∧i= .int .i64 j∧(m=it+1+1+j∧c=cn+(1+sf)+1+strTo f.streams j)∧PS w6 wr2 gp (.slice (some ⟨g,0,none⟩) es.length nc) pv ev k m c∧Box 25 gn (nfCells f (.slice a' l' c') (.slice sa f.streams.length sc)) wr2∧
        Box 132 gx [.int .i64 (cn:Int), .int .i64 (sf:Int), .int .i64 dir, .slice xa j xc] wr2∧ ∃xs,wr2.ownsRow w6.heap.size 129 2 (.slice xa j xc) j xs) (fun i _=>f.streams.length-(intOf i).toNat)
       case atStart=>exact ⟨0,_,_,_,_,none,0,Nat.zero_le _,rfl,⟨rfl,by rw[strTo_zero]⟩,HPS.out,HBN.out,HBX.out,[],World.ownsRow_nil _ _ _ _⟩
       case round=>
        obtain ⟨j,m,c,ev,dir,xa,xc,hj,rfl,⟨hm,hcj⟩,hps,hbN,hbX,xs,hxs⟩:=hrel
        clear HPS HBN HBX
        have n11:=hbN.cell 11 _ rfl
        by_cases hjl:j<f.streams.length
        ·have hji:(j:Int)<f.streams.length:=by omega
         obtain ⟨b,off,rfl,hbg,hcs⟩:=HSTR.out j hjl
         have hdz:=HDATA.out _ (List.getElem_mem hjl)
         have ds:=(hps.frame.cell (show b<w6.heap.size by have:=hps.lt;omega) (show ¬b=gp by omega) (off+j*2+1)).trans hcs
         have HST:=hQ (strTo_succ f.streams j hjl)
         have hcz:(c:Int)≤30000000:=by
          have h1:=strTo_le f.streams HDATA.out j hj
          omega
         have hmz:(m:Int)≤1000:=by omega
         generalize f.streams[j].2=d at*
         have HO:=hQ (fun W:World=>HOUT.out d.size W (by omega))
         have hoz:=outside_le d.size
         have p3:=hps.box.cell 3 _ rfl
         have HPS:=hQ hps
         have HBN:=hQ hbN
         have HBX:=hQ hbX
         have HXS:=hQ hxs
         have HMC:=hQ (show m=it+1+1+j∧c=cn+(1+sf)+1+strTo f.streams j from ⟨hm,hcj⟩)
         have hwl:=below_drew (Below.refl wr.heap.size wr)
         generalize hov:outside d.size=ov at*
         have hovz:(ov:Int)≤65536:=by omega
         clear hps hbN hbX hxs hm hcj hcs hdz hoz hov hbg
         go_upto_region 21 with (fail)
         go_cut [11] (fun pp wx=> ∃q,pp= .pointer (some ⟨q,0,none⟩)∧Box 129 q [.int .i64 (c:Int), .int .i64 (ov:Int)] wx∧Below wr.heap.size wr wx∧wr.heap.size≤q)
         case first=>
          have hal:=fun o=>below_alloc1 wr o
          have p3A:=fun o=>((hal o).cell (World.block_lt_of_cell? _ _ p3)).trans p3
          have n11A:=fun o=>((hal o).cell (World.block_lt_of_cell? _ _ n11)).trans n11
          have dsA:=fun o=>((hal o).cell (World.block_lt_of_cell? _ _ ds)).trans ds
          go_region_held3 (fun W=>W.cell? ⟨gp,3,none⟩=some (.int .i64 (c:Int))∧W.cell? ⟨gn,11,none⟩=some (.slice (some ⟨b,off,none⟩) f.streams.length sc)∧W.cell? ⟨b,off+j*2+1,none⟩=some (.string d))
           (simp[p3,n11,ds,p3A,n11A,dsA])
           (first
           |(go_at_call 51;refine (HO.out _).mono ?_;rintro e wz ⟨rfl,rfl⟩))
          all_goals
           go_wp2_with fail
           go_meet
           case rel=>exact ⟨wr.heap.size,rfl,(Box.new (ty:=129) wr [.int .i64 (c:Int), .int .i64 (ov:Int)]).step (below_drew (Below.refl _ _)),below_drew (below_alloc1 wr _),Nat.le_refl _⟩
         case rest=>
          obtain ⟨q,rfl,hbP,hbw,hq⟩:=hcut
          have hps:=HPS.out.step hbw
          have hbN:=HBN.out.step hbw
          have hbX:=HBX.out.step hbw
          have hxs:=own_below' HXS.out hbw
          have hqx:q≠gx:=by have:=HBX.out.lt;omega
          have hqg0:gp<q:=by have:=HPS.out.frame.size;have:=HPS.out.lt;omega
          have hqn:q≠gn:=by have:=HBN.out.lt;omega
          have hqs: ∀b,(Value.slice xa j xc).ownBlock=some b→b≠q:=fun b hb=>by have:=(HXS.out.lt b hb).2;omega
          clear HPS HBN HBX HXS ds p3 n11 hwl HO
          have x3:=hbX.cell 3 _ rfl
          have hbPU:=hbP
          have HPS:=hQ hps
          have HBN:=hQ hbN
          have HBX:=hQ hbX
          have HXS:=hQ hxs
          have HQS:=hQ hqs
          clear hps hbN hbX hxs hqs
          have hjz:(j:Int)≤4:=by omega
          go_upto_region 23 with (first
           |(refine wpList_load_row rfl _ _ rfl q _ _ _ rfl hbPU Tryz.underlying129 rfl 2 part_size rfl ?_)
           |(at_builtin;refine wpList_append_own _ rfl _ _ 130 rfl w6.heap.size 129 i1 (.agg #[.int .i64 0, .int .i64 0]) 2 16 Tryz.underlying130 hi1 hy0 hy1 hy2 rfl (by decide) (.slice xa j xc) j xs rfl ?_ ⟨wc.heap.size,0,none⟩ 1 1 [.int .i64 (c:Int), .int .i64 (ov:Int)] rfl rfl ?_ ?_ ?_ ?_ ?_ ?_)
           |fail)
          ·exact own_below' HXS.out (below_alloc1 _ _)
          ·exact new_cells _ _ _
          ·intro u hu
           simp only[List.mem_cons,List.not_mem_nil,or_false] at hu
           rcases hu with rfl|rfl <;> rfl
          ·unfold maxLen;omega
          ·omega
          ·exact Nat.le_trans HPS.out.frame.size (below_alloc1 _ _).size
          intro sv' wH hownH hgrowH _
          obtain ⟨xaH,xcH,rfl⟩:=own_slice hownH
          obtain ⟨ysE,hyE⟩:=HPS.out.entries
          obtain ⟨xsP,hxP⟩:=HPS.out.places
          have hk1:Kp (fun b=>(Value.slice xa j xc).ownBlock=some b) wc wH:=(Kp.of (below_alloc1 wc _)).trans (Kp.of_grown hgrowH fun g hg=>hg)
          have hbX1:=HBX.out.kp hk1 (fun e=>HBX.out.ne_own HXS.out (by decide) gx e rfl)
          have x3':=hbX1.cell 3 _ rfl
          have fx3:=hbX1.frozen 3
          obtain ⟨wI,hwI⟩: ∃wI,wI=wH.setCell ⟨gx,3,none⟩ (.slice xaH (j+1) xcH):=⟨_,rfl⟩
          have hk2:=Kp.setIn wH gx 3 (.slice xaH (j+1) xcH)
          have hxsI:=own_kp hownH hk2 (fun b hb hd=>hbX1.ne_own hownH (by decide) b hb hd)
          have hbXI:=hbX1.setCell 3 (.slice xaH (j+1) xcH)
          rw[←hwI] at hk2 hxsI hbXI
          have hkI:Kp (fun b=>b=gx∨(Value.slice xa j xc).ownBlock=some b) wc wI:=(hk1.wk fun b hb=> .inr hb).trans (hk2.wk fun b hb=> .inl hb)
          have hpsI:=HPS.out.kp hkI (fun b hb=>hb.elim (fun h=>⟨by omega,fun e=>by have:=hpvx b e;omega,fun e=>HBX.out.ne_own hyE (by decide) b e h⟩) fun h=>⟨(HXS.out.lt b h).1,own_ne HXS.out hxP (by decide) b h,own_ne HXS.out hyE (by decide) b h⟩)
          have hbNI:=HBN.out.kp hkI (fun hd=>hd.elim (fun h=>by omega) fun h=>HBN.out.ne_own HXS.out (by decide) gn h rfl)
          have hbPI:=hbP.kp hkI (fun hd=>hd.elim (fun h=>hqx h) fun h=>HQS.out q h rfl)
          have HWI:=hQ hwI
          clear hwI hownH hgrowH hk1 hk2 hkI hbX1 hyE hxP HPS HBN HBX HXS HQS x3 hbPU hbP hbw
          go_upto_region 23 with (fail)
          rw[←HWI.out]
          clear x3' fx3 HWI
          obtain ⟨ysC,hyC⟩:=hpsI.entries
          obtain ⟨eaI,ecI,rfl⟩:=own_slice hyC
          have p2:=hpsI.box.cell 2 _ rfl
          have p3:=hpsI.box.cell 3 _ rfl
          have HPS:=hQ hpsI
          have HY:=hQ hyC
          have HBN:=hQ hbNI
          have HBX:=hQ hbXI
          have HBP:=hQ hbPI
          have HXS:=hQ hxsI
          clear hpsI hyC hbNI hbXI hbPI hxsI
          go_upto_region 24 with (first
           |(at_builtin;refine wpList_append_own _ rfl _ _ 34 rfl w6.heap.size 3 i2 (.int .i64 0) 1 8 Tryz.underlying34 hi2 hz0 hz1 hz2 rfl (by decide) (.slice eaI m ecI) m ysC rfl ?_ ⟨wI.heap.size,0,none⟩ 1 1 [.int .i64 (c:Int)] rfl rfl ?_ ?_ ?_ ?_ ?_ ?_)
           |fail)
          ·exact own_below' HY.out (below_alloc1 _ _)
          ·exact new_cells _ _ _
          ·intro u hu;rw[List.mem_singleton] at hu;rw[hu];rfl
          ·unfold maxLen;omega
          ·omega
          ·exact Nat.le_trans HPS.out.frame.size (below_alloc1 _ _).size
          intro evJ wJ hownJ hgrowJ _
          obtain ⟨eaJ,ecJ,rfl⟩:=own_slice hownJ
          obtain ⟨q2,f2,hpsJ,hkJ⟩:=PS.entry HPS.out HY.out (below_alloc1 wI _) hownJ hgrowJ
          obtain ⟨wK,hwK⟩: ∃wK,wK=wJ.setCell ⟨gp,2,none⟩ (.slice eaJ (m+1) ecJ):=⟨_,rfl⟩
          rw[←hwK] at hpsJ hkJ
          have hgpl:=HPS.out.lt
          have hqg:q≠gp:=by omega
          have hbNJ:=HBN.out.kp hkJ (fun hc=>hc.elim (fun h=>by omega) fun h=>HBN.out.ne_own HY.out (by decide) gn h rfl)
          have hbXJ:=HBX.out.kp hkJ (fun hc=>hc.elim (fun h=>by omega) fun h=>HBX.out.ne_own HY.out (by decide) gx h rfl)
          have hbPJ:=HBP.out.kp hkJ (fun hc=>hc.elim (fun h=>hqg h) fun h=>HBP.out.ne_own HY.out (by decide) q h rfl)
          have hxsJ:=own_kp HXS.out hkJ (fun b hb hd=>hd.elim (fun h=>by have:=(HXS.out.lt b hb).1;omega) fun h=>own_ne HXS.out HY.out (by decide) b hb h)
          have HWK:=hQ hwK
          clear hwK hownJ hgrowJ hkJ HPS HY HBN HBX HBP HXS p2 p3
          go_upto_region 24 with (fail)
          rw[←HWK.out]
          clear q2 f2 HWK
          have q3:=hpsJ.box.cell 3 _ rfl
          have f3:=hpsJ.box.frozen 3
          have y1:=hbPJ.cell 1 _ rfl
          have hcD:((c+(1+ov):Nat):Int)=(c:Int)+(1+(ov:Int)):=by omega
          have hpsL:=hpsJ.count (c+(1+ov))
          have hkL:=Kp.setIn wK gp 3 (.int .i64 ((c+(1+ov):Nat):Int))
          have hbNL:=hbNJ.kp hkL (by omega)
          have hbXL:=hbXJ.kp hkL (by omega)
          have hxsL:=own_kp hxsJ hkL (fun b hb hd=>by have:=(hxsJ.lt b hb).1;omega)
          rw[hcD] at hpsL hbNL hbXL hxsL
          have HPS:=hQ hpsL
          have HBN:=hQ hbNL
          have HBX:=hQ hbXL
          have HXS:=hQ hxsL
          clear hkL hpsJ hbNJ hbXJ hbPJ hxsJ hcD hpsL hbNL hbXL hxsL
          go_wp2
          go_roundw
          case rel=>exact ⟨j+1,m+1,c+(1+ov),_,dir,xaH,xcH,by omega,by go_num,⟨by have:=HMC.out.1;omega,by rw[HST.out];have:=HMC.out.2;omega⟩,HPS.out,HBN.out,HBX.out,_,HXS.out⟩
          case measure=>simp[intOf];omega
        ·have hji:(f.streams.length:Int)≤j:=by omega
         have hjj:j=f.streams.length:=by omega
         have HR:=hQ (show ∃(ev':Value) (m c:Nat),(m=it+(1+(if f.streams.length=0 then 0 else 1+f.streams.length))∧c=cn+(1+sf+(if f.streams.length=0 then 0 else 1+strTo f.streams f.streams.length)))∧PS w6 wr gp (.slice (some ⟨g,0,none⟩) es.length nc) pv ev' k m c∧
          ∃(dir:Int) (xa:Option Addr) (xl xc:Nat),Box 132 gx [.int .i64 (cn:Int), .int .i64 (sf:Int), .int .i64 dir, .slice xa xl xc] wr from ⟨_,m,c,⟨by rw[HIF2.out,hm,hjj];omega,by rw[HIF.out,hcj,hjj];omega⟩,hps,_,_,_,_,hbX⟩)
         clear hm hcj hps hbN hbX hxs hjj
         go_wp2_with fail
         go_meet
         case rel=>exact HR.out
     case rest=>
      obtain ⟨ev9,m9,c9,⟨hm9,hc9⟩,hps9,dir,xa,xl,xc,hbX9⟩:=hcut
      have HM9:=hQ (show itemsTo es (k+1)=m9 by rw[HIT.out,hm9])
      have HC9:=hQ (show cntTo es (k+1)=c9 by rw[HCT.out,hc9])
      obtain ⟨ys9,hy9⟩:=hps9.places
      obtain ⟨pa9,pc9,rfl⟩:=own_slice hy9
      have q1:=hps9.box.cell 1 _ rfl
      have HPS9:=hQ hps9
      have HY9:=hQ hy9
      clear hm9 hc9 hps9 hy9 n11 HPS HBN HBX
      go_upto_region 7 with (first
       |(refine wpList_load_row rfl _ _ rfl gx _ _ _ rfl hbX9 Tryz.underlying132 rfl 4 place_size rfl ?_)
       |(at_builtin;refine wpList_append_own _ rfl _ _ 68 rfl w6.heap.size 132 i0 (.agg #[.int .i64 0, .int .i64 0, .int .i64 0, .slice none 0 0]) 4 48 Tryz.underlying68 hi0 hx0 hx1 hx2 rfl (by decide) (.slice pa9 k pc9) k ys9 rfl ?_ ⟨wc.heap.size,0,none⟩ 1 1 [.int .i64 (cn:Int), .int .i64 (sf:Int), .int .i64 dir, .slice xa xl xc] rfl rfl ?_ ?_ ?_ ?_ ?_ ?_)
       |fail)
      ·exact own_below' HY9.out (below_alloc1 _ _)
      ·exact new_cells _ _ _
      ·intro u hu
       simp only[List.mem_cons,List.not_mem_nil,or_false] at hu
       rcases hu with rfl|rfl|rfl|rfl <;> rfl
      ·unfold maxLen;omega
      ·omega
      ·exact Nat.le_trans HPS9.out.frame.size (below_alloc1 _ _).size
      intro pv' wF hownF hgrowF _
      obtain ⟨paF,pcF,rfl⟩:=own_slice hownF
      obtain ⟨qF,fF,hpsF⟩:=PS.place HPS9.out HY9.out (below_alloc1 wc _) hownF hgrowF
      have HPF:=hQ hpsF
      clear hpsF hownF hgrowF HPS9 HY9 hbX9 q1
      go_wp2
      go_roundw
      case rel=>exact ⟨k+1,_,ev9,by omega,by go_num,by rw[HM9.out,HC9.out];exact HPF.out⟩
      case measure=>simp[intOf];omega
   ·have hki:(es.length:Int)≤k:=by omega
    have hk':k=es.length:=by omega
    obtain ⟨ys,hy⟩:=hps.entries
    obtain ⟨xs,hx⟩:=hps.places
    obtain ⟨ea,ec,rfl⟩:=own_slice hy
    obtain ⟨pa,pc,rfl⟩:=own_slice hx
    have HF:=hQ hps.frame
    have hbP:=hps.box
    have hRb:=HRES.out _ HF.out
    have HB9:=hQ (HBW.out _ HF.out)
    have HKK:=hQ hk'
    have hlr:=hRb.lt
    clear hps hy hx hk'
    go_wp2_with (first
     |(refine wpList_load_row rfl _ _ rfl gp _ _ _ rfl hbP Tryz.underlying70 rfl 4 plan_size rfl ?_)
     |(refine wpList_store_row rfl _ _ _ rfl (w.heap.size+1) _ _ #[.slice na es.length nc, .slice pa k pc, .slice ea (itemsTo es k) ec, .int .i64 (cntTo es k:Int)] rfl rfl hRb 4 plan_size rfl rfl (plan_one _ _ _ _ _ _ _ _ _ _) ?_)
     |go_in)
    have hboxF:=hRb.setRow [.slice na es.length nc, .slice pa k pc, .slice ea (itemsTo es k) ec, .int .i64 (cntTo es k:Int)]
    have hkF:=Kp.setRow wr (w.heap.size+1) #[.slice na es.length nc, .slice pa k pc, .slice ea (itemsTo es k) ec, .int .i64 (cntTo es k:Int)]
    have hf:=HB9.out.trans (hkF.below (B:=w.heap.size) (fun b hb=>by omega) HB9.out.size)
    refine bodyPost_ret (v:= .tuple #[.agg #[.slice na es.length nc, .slice pa k pc, .slice ea (itemsTo es k) ec, .int .i64 (cntTo es k:Int)], .int .i64 0]) (results_cell2 (g:=w.heap.size+1) (t:=70) (cs:= #[.slice na es.length nc, .slice pa k pc, .slice ea (itemsTo es k) ec, .int .i64 (cntTo es k:Int)]) Tryz.results17 _ _ _ _ rfl hboxF Tryz.underlying70 rfl plan_size) rfl ?_
    have hk9:=HKK.out
    subst hk9
    first
     |exact ⟨fun _=>⟨na,pa,ea,_,nc,_,pc,ec,rfl⟩,fun h=>by cases h,hf⟩
     |exact ⟨⟨na,pa,ea,_,nc,_,pc,ec,rfl⟩,fun h=>by cases h,hf⟩
     |exact ⟨⟨na,pa,ea,_,nc,_,pc,ec,rfl⟩,hf⟩
end Go.Proofs.YtbeccmkegckjjaaGreatDoor
end
