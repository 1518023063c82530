/- Law 43, UdfbuildSizes: a part of the proof. -/
import Derived.Test.YtbeccmkegckjjaaGreatDoorQ12
import Derived.Test.YtbeccmkegckjjaaGreatDoorQ15
set_option linter.unusedVariables false
set_option linter.ambiguousOpen false
set_option linter.unusedSimpArgs false
section
namespace Go.Proofs.YtbeccmkegckjjaaGreatDoor
open Go.RowKit
set_option maxRecDepth 1000000
set_option maxHeartbeats 3200000
def consP(p:List UInt8):List (List UInt8)→List (List UInt8)
 |[]=>[p]
 |h::t=>(p++h)::t
theorem spStep_hit(o:List (List UInt8))(p:List UInt8){b:UInt8}(h:b.toNat=47):spStep (o,p) b=(o++[p],[]):=by unfold spStep;rw[if_pos h]
theorem spStep_miss(o:List (List UInt8))(p:List UInt8){b:UInt8}(h: ¬b.toNat=47):spStep (o,p) b=(o,p++[b]):=by unfold spStep;rw[if_neg h]
theorem consP_app(q s:List UInt8)(x:List (List UInt8)):consP (q++s) x=consP q (consP s x):=by cases x <;> simp[consP]
theorem fold47: ∀(l:List UInt8) (o:List (List UInt8)) (p:List UInt8),(l.foldl spStep (o,p)).1++[(l.foldl spStep (o,p)).2]=o++consP p (parts47 l)
 |[],o,p=>by simp[parts47,spSt,consP]
 |b::r,o,p=>by
  have ih:=fold47 r
  have hd:parts47 (b::r)=(r.foldl spStep (spStep ([],[]) b)).1++[(r.foldl spStep (spStep ([],[]) b)).2]:=rfl
  rw[hd,List.foldl_cons]
  by_cases hb:b.toNat=47
  ·rw[spStep_hit _ _ hb,spStep_hit _ _ hb,ih,ih]
   cases hp:parts47 r with
   |nil=>simp[consP]
   |cons h t=>simp[consP]
  ·rw[spStep_miss _ _ hb,spStep_miss _ _ hb,ih,ih,List.nil_append,List.nil_append,consP_app]
theorem parts47_ne(l:List UInt8):parts47 l≠[]:=by unfold parts47;simp
theorem parts47_nil:parts47 []=[[]]:=rfl
theorem parts47_cons(b:UInt8)(r:List UInt8):parts47 (b::r)=if b.toNat=47 then []::parts47 r else consP [b] (parts47 r):=by
 have hd:parts47 (b::r)=(r.foldl spStep (spStep ([],[]) b)).1++[(r.foldl spStep (spStep ([],[]) b)).2]:=rfl
 rw[hd]
 by_cases hb:b.toNat=47
 ·rw[if_pos hb,spStep_hit _ _ hb,fold47]
  have:=parts47_ne r
  cases hp:parts47 r with
  |nil=>exact absurd hp this
  |cons h t=>simp[consP]
 ·rw[if_neg hb,spStep_miss _ _ hb,fold47]
  simp
theorem splitK_parts: ∀(l:List UInt8),Lib.splitK [47] 0 (Lib.count l [47]) l=parts47 l
 |[]=>rfl
 |b::r=>by
  have ih:=splitK_parts r
  rw[parts47_cons]
  by_cases hb:b=47
  ·subst hb
   rw[Lib.count_cons_eq,if_pos (by rfl),Nat.add_comm]
   have hi:Lib.index (47::r) [47]=0:=by unfold Lib.index;simp[List.isPrefixOf]
   show (if Lib.index (47::r) [47]== -1 then _ else _)=_
   rw[hi,if_neg (by decide)]
   show List.take (Int.toNat 0+0) (47::r)::Lib.splitK [47] 0 (Lib.count r [47]) (List.drop (Int.toNat 0+1) (47::r))=_
   rw[show List.drop (Int.toNat 0+1) (47::r)=r from rfl,ih]
   rfl
  ·have hb': ¬b.toNat=47:=fun h=>hb (UInt8.toNat_inj.1 h)
   rw[Lib.count_cons_ne _ _ _ hb,if_neg hb', ←ih]
   have hidx:Lib.index (b::r) [47]=if Lib.index r [47]== -1 then -1 else Lib.index r [47]+1:=by
    have hp:List.isPrefixOf [47] (b::r)=false:=by
     rw[Bool.eq_false_iff]
     intro h
     simp[List.isPrefixOf] at h
     exact hb h.symm
    conv=>lhs;unfold Lib.index
    rw[hp];rfl
   have hge:=Lib.index_ge r [47]
   cases hc:Lib.count r [47] with
   |zero=>rfl
   |succ k=>
    have hne:Lib.index r [47]≠ -1:=fun h=>by rw[Lib.count_miss h] at hc;cases hc
    obtain ⟨i,hi⟩: ∃i:Nat,Lib.index r [47]=i:=⟨(Lib.index r [47]).toNat,by omega⟩
    have e1:(Lib.index r [47]== -1)=false:=by rw[beq_eq_false_iff_ne];exact hne
    rw[e1] at hidx
    have hidx':Lib.index (b::r) [47]=((i+1:Nat):Int):=by rw[hidx,hi];rfl
    have e2:(Lib.index (b::r) [47]== -1)=false:=by rw[beq_eq_false_iff_ne,hidx'];omega
    show (if Lib.index (b::r) [47]== -1 then _ else _)=consP [b] (if Lib.index r [47]== -1 then _ else _)
    rw[e1,e2,hidx',hi]
    show List.take (i+1+0) (b::r)::Lib.splitK [47] 0 k (List.drop (i+1+1) (b::r))=consP [b] (List.take (i+0) r::Lib.splitK [47] 0 k (List.drop (i+1) r))
    rfl
theorem trim47(l:List UInt8):Lib.trimPrefix l [47]=stripS l:=by
 unfold Lib.trimPrefix stripS Lib.hasPrefix
 cases l with
 |nil=>rfl
 |cons b r=>
  by_cases hb:b=47
  ·subst hb;simp[List.isPrefixOf]
  ·have:([47]:List UInt8).isPrefixOf (b::r)=false:=by
    rw[Bool.eq_false_iff];intro h;simp[List.isPrefixOf] at h;exact hb h.symm
   simp[this,hb]
theorem splitB_parts(s:ByteArray):(Lib.splitB ⟨#[47]⟩ 0 (Lib.countB s ⟨#[47]⟩) s).map Value.string=strsV (parts47 s.data.toList):=by
 have h:=Lib.splitB_data ⟨#[47]⟩ 0 (Lib.countB s ⟨#[47]⟩) s
 have h2:Lib.splitK [47] 0 (Lib.countB s ⟨#[47]⟩) s.data.toList=parts47 s.data.toList:=splitK_parts _
 rw[←h2]
 have h':(Lib.splitB ⟨#[47]⟩ 0 (Lib.countB s ⟨#[47]⟩) s).map (fun x=>x.data.toList)=Lib.splitK [47] 0 (Lib.countB s ⟨#[47]⟩) s.data.toList:=h
 rw[←h',strsV,List.map_map]
 rfl
def TabsM(w:World):Prop:=Tabs w∧ ∃m:Int,w.cell? ⟨0,0,none⟩=some (.int .i64 m)
theorem TabsM.step{w w':World}(h:TabsM w)(hb:Below w.heap.size w w'):TabsM w':=by
 obtain ⟨h1,m,h2⟩:=h
 exact ⟨h1.step hb,m,(hb.cell (World.block_lt_of_cell? _ _ h2)).trans h2⟩
theorem p_split(s:ByteArray)(w:World)(hT:TabsM w)(hs:s.size≤65536):
 Calls Tryz.prog 216 #[.string s, .string ⟨#[47]⟩] w fun e w'=>e= .returned (.slice (some ⟨w.heap.size,0,none⟩) (parts47 s.data.toList).length (parts47 s.data.toList).length)∧w'=w.alloc (.cells (strsV (parts47 s.data.toList)).toArray 9):=by
 obtain ⟨-,m,hm⟩:=hT
 have hn:Lib.countB s ⟨#[47]⟩+1=(parts47 s.data.toList).length:=by
  rw[←Lib.splitB_all ⟨#[47]⟩ (Nat.le_refl _) 0 _ s rfl, ←List.length_map (f:=Value.string),splitB_parts,strsV,List.length_map]
 refine (Tryz.strings_Split s ⟨#[47]⟩ m w (by omega) hm (Nat.le_refl _)).mono ?_
 rintro e w' ⟨rfl,rfl⟩
 rw[splitB_parts,hn]
 exact ⟨rfl,rfl⟩
theorem p_target(s:ByteArray)(w:World)(hT:TabsM w)(hz:s.size≤65536):
 Calls Tryz.prog 210 #[.string s] w fun e w'=>e= .returned (.bool (tgtOK s.data.toList))∧Below w.heap.size w w':=by
 have hl:s.data.toList.length=s.size:=len_data s
 have HOK:=hQ (show tgtOK s.data.toList=((decide (1≤s.data.toList.length)&&decide (s.data.toList.length≤128))&&(decide (s.data.toList=[47])||tgtTo (parts47 (stripS s.data.toList)) (parts47 (stripS s.data.toList)).length)) from rfl)
 by_cases h1:s.size<1
 ·have h1':(s.size:Int)<1:=by omega
  have HF:=hQ (show tgtOK s.data.toList=false by rw[HOK.out,decide_eq_false (show ¬1≤s.data.toList.length by omega)];rfl)
  clear h1 hl hT
  go_enter Tryz.func210,Tryz.ntmps210
  go_wp2
  go_ret
  exact ⟨ret_bool' HF.out.symm,Below.refl _ _⟩
 ·have h1':(1:Int)≤s.size:=by omega
  by_cases h2:128<s.size
  ·have h2':(128:Int)<s.size:=by omega
   have HF:=hQ (show tgtOK s.data.toList=false by rw[HOK.out,decide_eq_false (show ¬s.data.toList.length≤128 by omega)];simp)
   clear h1 h2 hl hT
   go_enter Tryz.func210,Tryz.ntmps210
   go_wp2
   go_ret
   exact ⟨ret_bool' HF.out.symm,Below.refl _ _⟩
  ·have h2':(s.size:Int)≤128:=by omega
   have HOK2:=hQ (show tgtOK s.data.toList=(decide (s.data.toList=[47])||tgtTo (parts47 (stripS s.data.toList)) (parts47 (stripS s.data.toList)).length) by rw[HOK.out,decide_eq_true (show 1≤s.data.toList.length by omega),decide_eq_true (show s.data.toList.length≤128 by omega)];rfl)
   clear HOK
   have hs1:=str_beq s [47]
   by_cases h3:s.data.toList=[47]
   ·rw[decide_eq_true h3] at hs1
    have HF:=hQ (show tgtOK s.data.toList=true by rw[HOK2.out,decide_eq_true h3];rfl)
    clear h1 h2 hl h3 hT
    go_enter Tryz.func210,Tryz.ntmps210
    go_wp2
    go_ret
    exact ⟨ret_bool' HF.out.symm,Below.refl _ _⟩
   ·rw[decide_eq_false h3] at hs1
    have HOK3:=hQ (show tgtOK s.data.toList=tgtTo (parts47 (stripS s.data.toList)) (parts47 (stripS s.data.toList)).length by rw[HOK2.out,decide_eq_false h3];rfl)
    clear HOK2 h3
    have hsl:(stripS s.data.toList).length≤128:=by
     unfold stripS
     split
     ·rw[List.length_tail];omega
     ·omega
    have HTP:=hQ (fun W:World=>Tryz.strings_TrimPrefix s ⟨#[47]⟩ W)
    have e47:Lib.trimPrefix s.data.toList (⟨#[47]⟩:ByteArray).data.toList=stripS s.data.toList:=trim47 _
    rw[e47] at HTP
    obtain ⟨s1,hs1e⟩: ∃s1:ByteArray,s1=⟨(stripS s.data.toList).toArray⟩:=⟨_,rfl⟩
    have hs1d:s1.data.toList=stripS s.data.toList:=by rw[hs1e]
    have hz1:s1.size≤128:=by rw[←len_data,hs1d];exact hsl
    rw[←hs1e] at HTP
    have HSP:=hQ (fun (W:World) (hW:TabsM W)=>p_split s1 W hW (by omega))
    rw[hs1d] at HSP
    have HP1:=hQ (parts47_len (stripS s.data.toList))
    have HP2:=hQ (fun p hp=>Nat.le_trans (parts47_part_le (stripS s.data.toList) p hp) hsl)
    have HN:=hQ (fun (x:ByteArray) (W:World) (hW:Tabs W) (h:x.size≤65536)=>p_name x W hW h)
    have HT:=hQ hT
    have hpl:(parts47 (stripS s.data.toList)).length≤129:=by have:=HP1.out.2;omega
    clear hs1d hl e47 hsl hs1e hT
    generalize parts47 (stripS s.data.toList)=ps at*
    generalize tgtOK s.data.toList=res at*
    go_enter Tryz.func210,Tryz.ntmps210
    go_wp2_with fail
    refine (HTP.out _).mono ?_
    rintro e w ⟨rfl,rfl⟩
    go_wp2_with fail
    refine (HSP.out _ HT.out).mono ?_
    rintro e w1 ⟨rfl,hw1⟩
    have hb1:Below w.heap.size w w1:=by rw[hw1];exact below_alloc1 w _
    have hg2:w.heap.size<w1.heap.size:=by rw[hw1];show _<(w.heap.push _).size;simp
    have HC:=hQ (fun k (hk:k<ps.length)=>show w1.cell? ⟨w.heap.size,k,none⟩=some (strV ps[k]) by
     rw[hw1,cell_of_row _ w.heap.size k (strsV ps).toArray 9 (0,0) (by show (w.heap.push _)[w.heap.size]? =_;simp),List.getElem?_toArray,strsV,List.getElem?_map,List.getElem?_eq_getElem hk];rfl)
    have HT1:=hQ (HT.out.step hb1)
    clear hw1
    go_wp2_with fail
    go_loopw [19] (fun i wr=> ∃k:Nat,k≤ps.length∧i= .int .i64 k∧Below w1.heap.size w1 wr∧tgtTo ps k=true) (fun i _=>ps.length-(intOf i).toNat)
    case atStart=>exact ⟨0,Nat.zero_le _,rfl,Below.refl _ _,rfl⟩
    case round=>
     obtain ⟨k,hk,rfl,hbw,htk⟩:=hrel
     by_cases hlt:k<ps.length
     ·have hi:(k:Int)<ps.length:=by omega
      have hck:=(hbw.cell hg2).trans (HC.out k hlt)
      have hpz:=HP2.out ps[k] (List.getElem_mem hlt)
      have HT1':=hQ (tgtTo_succ ps k hlt)
      rw[htk,Bool.true_and] at HT1'
      have HM:=hQ (tgtTo_mono ps (k+1))
      generalize ps[k]=p at*
      have HT2:=hQ (show tgtPart p=(decide (p=[46])||(decide (p=[46,46])||nameOK p)) from rfl)
      unfold strV at hck
      obtain ⟨q,hq⟩: ∃q:ByteArray,q=⟨p.toArray⟩:=⟨_,rfl⟩
      have hqd:q.data.toList=p:=by rw[hq]
      have hqz:q.size≤65536:=by rw[←len_data,hqd];omega
      rw[←hq] at hck
      have b1:=str_beq q [46]
      have b2:=str_beq q [46,46]
      rw[hqd] at b1 b2
      have HNQ:=hQ (fun (W:World) (hW:Tabs W)=>HN.out q W hW hqz)
      rw[hqd] at HNQ
      have hTr:=(HT1.out.step hbw).1
      clear hq hqd
      generalize decide (p=[46])=x1 at*
      generalize decide (p=[46,46])=x2 at*
      generalize nameOK p=x3 at*
      rw[HT2.out] at HT1'
      clear HT2
      cases x1
      ·cases x2
       ·go_wp2_with fail
        refine (HNQ.out _ hTr).mono ?_
        rintro e w2 ⟨rfl,hb2⟩
        cases x3
        ·have HF:=hQ (HOK3.out.trans (HM.out HT1'.out))
         go_wp2
         go_ret
         exact ⟨ret_bool' HF.out.symm,hb1.trans ((hbw.trans (hb2.mono hbw.size)).mono hb1.size)⟩
        ·go_wp2
         go_roundw
         case rel=>exact ⟨k+1,by omega,by go_num,hbw.trans (hb2.mono hbw.size),HT1'.out⟩
         case measure=>simp[intOf];omega
       ·go_wp2
        go_roundw
        case rel=>exact ⟨k+1,by omega,by go_num,hbw,HT1'.out⟩
        case measure=>simp[intOf];omega
      ·go_wp2
       go_roundw
       case rel=>exact ⟨k+1,by omega,by go_num,hbw,HT1'.out⟩
       case measure=>simp[intOf];omega
     ·have hi:(ps.length:Int)≤k:=by omega
      have HF:=hQ (show res=true by rw[HOK3.out,show ps.length=k by omega,htk])
      go_wp2
      go_ret
      exact ⟨ret_bool' HF.out.symm,hb1.trans (hbw.mono hb1.size)⟩
theorem p_rtarget(f:NF)(kv sv:Value)(l:Nat)(w:World)(hT:TabsM w)(hz:f.target.size≤65536):
 Calls Tryz.prog 111 #[.agg (ruleCells f kv sv l).toArray] w fun e w'=> ∃n:Int,e= .returned (.int .i64 n)∧(n=0↔okTgt f=true)∧Below w.heap.size w w':=by
 unfold ruleCells
 have hb:=below_alloc1 w
 have HP:=hQ (show okTgt f=(!decide (f.kind=2)||tgtOK f.target.data.toList) from rfl)
 have HTG:=hQ (fun (W:World) (hW:TabsM W)=>p_target f.target W hW hz)
 have HT:=hQ (fun o=>hT.step (hb o))
 clear hT
 generalize tgtOK f.target.data.toList=ok at*
 by_cases h:f.kind=2
 ·have x2:(f.kind==2)=true:=eqB' h
  have HR:=hQ (show okTgt f=ok by rw[HP.out,decide_eq_true h];rfl)
  clear h HP
  cases ok
  all_goals
   go_enter Tryz.func111,Tryz.ntmps111
   go_wp2_with fail
   refine (HTG.out _ (HT.out _)).mono ?_
   rintro e w1 ⟨rfl,hb1⟩
   go_wp2
   go_ret
   exact ⟨_,rfl,by rw[HR.out];decide,(hb _).trans (hb1.mono (hb _).size)⟩
 ·have x2:(f.kind==2)=false:=neB' h
  have HR:=hQ (show okTgt f=true by rw[HP.out,decide_eq_false h];rfl)
  clear h HP
  go_enter Tryz.func111,Tryz.ntmps111
  go_wp2
  go_ret
  exact ⟨_,rfl,by rw[HR.out];decide,hb _⟩
end Go.Proofs.YtbeccmkegckjjaaGreatDoor
end
