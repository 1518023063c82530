/- Law 43, UdfbuildSizes: a part of the proof. -/
import Derived.Test.YtbeccmkegckjjaaGreatDoorQ25
import Derived.Test.YtbeccmkegckjjaaGreatDoorQ19
section
namespace Go.Proofs.YtbeccmkegckjjaaGreatDoor
open Go.RowKit
set_option maxRecDepth 1000000
set_option maxHeartbeats 12800000
theorem FlatR.fld{T:TypeId}{tail:List Value→Value→Prop}{B base:Nat}{C:Nat→Prop}{w:World}{g m cap:Nat}{es:List FE}{cs:List (List Value)}{kvs:List Value}(h:FlatR T tail B base C w (.slice (some ⟨g,0,none⟩) m cap) es cs kvs)(j:Nat)(hj:j<es.length):
 ∃nkv nsv:Value, ∀q x,(nfCells es[j].f nkv nsv)[q]? =some x→w.cell? ⟨g,j*16+q,none⟩=some x:=by
 have hlc:=h.lc
 have hlk:=h.lk
 obtain ⟨a1,a2,a3,tl,e1, -⟩:=h.ent j hj (by omega) (by omega)
 refine ⟨a1,a2,fun q x hq=>?_⟩
 have hlt:q<12:=(List.getElem?_eq_some_iff.1 hq).1
 rw[h.at j q hj (by omega) (by omega),e1,List.getElem?_append_left (by exact hlt)]
 exact hq
theorem r_size43(B base:Nat)(C:Nat→Prop)(w:World)(v:Value)(es:List FE)(cs:List (List Value))(kvs:List Value)(i:Nat)(hfr:FlatR 127 tailR B base C w v es cs kvs)(hi:i<es.length)(hok:FlOK 0 es es[i])
 (hnm: ∀x∈es[i].kids,nameOK x.name.data.toList=true) (htg:es[i].f.kind=2→tgtOK es[i].f.target.data.toList=true) (hlen:es.length≤64) (hkl:es[i].kids.length≤64):
 Calls Tryz.prog 52 #[v, .int .i64 (i:Int)] w fun e w'=>e= .returned (.int .i64 (contLen es[i].f es[i].kids:Int))∧Below w.heap.size w w':=by
 obtain ⟨g,cap,rfl,hg1,hg2⟩:=hfr.own.form (by omega)
 have hlk:=hfr.lk
 have hik:i<kvs.length:=by omega
 obtain ⟨nkv,nsv,hfl⟩:=hfr.fld i hi
 have c1:=hfl 1 _ rfl
 have c3:=hfl 3 _ rfl
 have c15:=hfr.kvAt i hi hik
 have hints:=hfr.ints i hi hik
 obtain ⟨ga,gc,hgv⟩:=own_slice hints
 have HKS:=hQ (fun k (hk:k<es[i].ks.length)=>show ∃gk,ga=some ⟨gk,0,none⟩∧gk<w.heap.size∧w.cell? ⟨gk,k,none⟩=some (.int .i64 (es[i].ks[k]:Int)) from by
  have hints':=hints
  obtain ⟨gk,gcap,e1,e2,e3⟩:=hints'.form (by omega)
  rw[hgv] at e1
  injection e1 with e1 e4 e5
  refine ⟨gk,e1,e3,?_⟩
  rw[hgv,e1] at hints'
  rw[hints'.cellAt k (by omega),intsV,List.getElem?_map,List.getElem?_eq_getElem hk]
  rfl)
 have hkk:=hok.1
 have HKN:=hQ (fun k (hk:k<es[i].kids.length)=>show ∃m,m<es.length∧es[i].ks[k]? =some m∧w.cell? ⟨g,m*16,none⟩=some (.string es[i].kids[k].name) from by
  obtain ⟨-,e',h1,h2⟩:=hok.2 k (by omega) hk
  rw[Nat.sub_zero] at h1
  obtain ⟨hm,he⟩:=List.getElem?_eq_some_iff.1 h1
  refine ⟨_,hm,List.getElem?_eq_getElem (by omega),?_⟩
  obtain ⟨n1,n2,h3⟩:=hfr.fld _ hm
  have h4:=h3 0 _ rfl
  rw[Nat.add_zero] at h4
  rw[h4,he,h2])
 rw[hgv] at c15
 have hii:(i:Int)<es.length:=by omega
 have hib:(es.length:Int)≤64:=by omega
 have HNM:=hQ hnm
 clear hfl hfr hints hgv hok hnm
 generalize es[i].f=f at*
 by_cases h2:f.kind=2
 ·have HCL:=hQ (show contLen f es[i].kids=linkLen f.target.data.toList by unfold contLen;rw[if_pos h2])
  have HCO:=hQ (fun (W:World)=>r_link f.target W (htg h2))
  have k2:=eqB' h2
  clear htg h2 HKS HKN
  generalize contLen f es[i].kids=L at*
  generalize linkLen f.target.data.toList=Q at*
  go_enter Tryz.func52,Tryz.ntmps52
  go_wp2_with fail
  refine (HCO.out _).mono ?_
  rintro e w2 ⟨t,rfl,ht,hb2⟩
  have HTS:=hQ ht
  clear ht c1 c3 c15
  go_wp2
  go_ret
  exact ⟨ret_intB (by rw[HTS.out,HCL.out]),hb2⟩
 ·have HCL:=hQ (show contLen f es[i].kids=40+fidsTo es[i].kids es[i].kids.length by unfold contLen;rw[if_neg h2])
  have HF1:=hQ (fun (t:ByteArray) (W:World) (h:nameOK t.data.toList=true)=>r_fidsize t W h)
  have HLE:=hQ (fun (t:ByteArray) (h:nameOK t.data.toList=true)=>fidLen_le h)
  have k2:=neB' h2
  clear htg h2
  generalize contLen f es[i].kids=L at*
  unfold fidV at HF1
  generalize hKS:es[i].ks=ks at*
  generalize hKD:es[i].kids=kids at*
  clear hKS hKD
  have hkk':(ks.length:Int)=kids.length:=by omega
  go_enter Tryz.func52,Tryz.ntmps52
  go_wp2_with fail
  go_loopw [5,6] (fun s i wr=> ∃(k q:Nat),k≤kids.length∧i= .int .i64 k∧s= .int .i64 (q:Int)∧(q=40+fidsTo kids k∧q≤40+k*400)∧Below w.heap.size w wr) (fun _ i _=>kids.length-(intOf i).toNat)
  case atStart=>exact ⟨0,40,Nat.zero_le _,rfl,rfl,⟨by simp[fidsTo],by omega⟩,Below.refl _ _⟩
  case round=>
   obtain ⟨k,q,hk,rfl,rfl,⟨hq,hqb⟩,hbw⟩:=hrel
   have d15:=(hbw.cell hg2).trans c15
   by_cases hlt:k<kids.length
   ·have hi1:(k:Int)<ks.length:=by omega
    have hqz:(q:Int)≤40000:=by omega
    have hnx:=HNM.out _ (List.getElem_mem hlt)
    have hle:=HLE.out _ hnx
    obtain ⟨gk,rfl,hgk,hck⟩:=HKS.out k (by omega)
    obtain ⟨m,hm,hmk,hcm⟩:=HKN.out k hlt
    rw[List.getElem?_eq_getElem (by omega)] at hmk
    injection hmk with hmk
    rw[hmk] at hck
    have dk:=(hbw.cell hgk).trans hck
    have dm:=(hbw.cell hg2).trans hcm
    have hmi:(m:Int)<es.length:=by omega
    have HQ:=hQ (show q+fidLen kids[k].name=40+fidsTo kids (k+1)∧q+fidLen kids[k].name≤40+(k+1)*400 from ⟨by rw[fidsTo_succ kids k hlt];omega,by omega⟩)
    have HF:=hQ (fun (W:World)=>HF1.out kids[k].name W hnx)
    clear hnx hcm hck hmk hq hqb hm hgk
    generalize kids[k]=f' at*
    generalize hfl:fidLen f'.name=fl at*
    have hflz:(fl:Int)≤400:=by omega
    clear hfl
    go_wp2_with fail
    refine (HF.out _).mono ?_
    rintro e w7 ⟨rfl,hb7⟩
    have hbw7:=hbw.trans (hb7.mono hbw.size)
    clear dk dm d15
    go_wp2
    go_roundw
    case rel=>exact ⟨k+1,q+fl,by omega,by go_num,by go_num,HQ.out,hbw7⟩
    case measure=>simp[intOf];omega
   ·have hi1:(ks.length:Int)≤k:=by omega
    have HR:=hQ (show q=L by rw[HCL.out,hq,show k=kids.length by omega])
    clear hq
    go_wp2
    go_ret
    exact ⟨ret_intB (by rw[HR.out]),hbw⟩
end Go.Proofs.YtbeccmkegckjjaaGreatDoor
end
