/- Law 43, UdfbuildSizes: a part of the proof. -/
import Derived.Test.YtbeccmkegckjjaaGreatDoorQ04
import Derived.Test.YtbeccmkegckjjaaGreatDoorQ23
import Derived.Deep.DeepCutAuto
import Derived.Test.YtbeccmkegckjjaaGreatDoorQ22
set_option linter.unusedVariables false
set_option linter.ambiguousOpen false
set_option linter.unusedSimpArgs false
section
namespace Go.Proofs.YtbeccmkegckjjaaGreatDoor
open Go.RowKit
set_option maxRecDepth 1000000
set_option maxHeartbeats 12800000
noncomputable def partLen(p:List UInt8):Nat:=if p=[46] then 4 else if p=[46,46] then 4 else if p=[] then 0 else 4+sqz (uc p)
noncomputable def linkTo(l:List (List UInt8))(k:Nat):Nat:=((l.take k).map partLen).sum
theorem linkTo_succ(l:List (List UInt8))(k:Nat)(h:k<l.length):linkTo l (k+1)=linkTo l k+partLen l[k]:=sum_take partLen l k h
noncomputable def linkLen(t:List UInt8):Nat:=(if t.head? =some 47 then 4 else 0)+linkTo (parts47 (stripS t)) (parts47 (stripS t)).length
theorem tgtTo_part{l:List (List UInt8)}(h:tgtTo l l.length=true)(k:Nat)(hk:k<l.length):l[k]=[46]∨l[k]=[46,46]∨nameOK l[k]=true:=by
 unfold tgtTo at h
 rw[List.take_length] at h
 have:=List.all_eq_true.1 h _ (List.getElem_mem hk)
 unfold tgtPart at this
 simpa using this
theorem nameOK_ne{p:List UInt8}(h:nameOK p=true):p≠[46]∧p≠[46,46]∧p≠[]:=by
 have he:=(nameOK_parts h).1
 unfold nameOK at h
 rw[Bool.and_eq_true] at h
 obtain ⟨h1,h2⟩:=h
 unfold goodCs at h2
 simp only[Bool.and_eq_true,decide_eq_true_eq] at h2
 obtain ⟨a,b, -,h3, -⟩:=h2
 rw[←he] at a b
 refine ⟨a,b,fun e=>?_⟩
 subst e
 cases hu:uc ([]:List UInt8) with
 |nil=>rw[hu] at h3;simp at h3
 |cons c r=>
  rw[hu,encs_cons] at he
  have:=enc_pos c
  have h0:=congrArg List.length he
  rw[List.length_append] at h0
  simp at h0
  omega
theorem partLen_name{p:List UInt8}(h:nameOK p=true):partLen p=4+sqz (uc p):=by
 obtain ⟨a,b,c⟩:=nameOK_ne h
 unfold partLen
 rw[if_neg a,if_neg b,if_neg c]
theorem partLen_dot:partLen [46]=4:=by unfold partLen;rw[if_pos rfl]
theorem partLen_dots:partLen [46,46]=4:=by unfold partLen;rw[if_neg (by decide),if_pos rfl]
theorem isE{s:ByteArray}(h:s.size=0):s.toList.isEmpty=true:=by rw[size0_toList h];rfl
theorem isN{s:ByteArray}(h:s.size≠0):s.toList.isEmpty=false:=by
 have:=strN h
 cases hq:s.toList with
 |nil=>rw[hq] at this;cases this
 |cons a r=>rfl
theorem r_link(s:ByteArray)(w:World)(h:tgtOK s.data.toList=true):
 Calls Tryz.prog 126 #[.string s] w fun e w'=> ∃t:ByteArray,e= .returned (.string t)∧t.size=linkLen s.data.toList∧Below w.heap.size w w':=by
 have hl:s.data.toList.length=s.size:=len_data s
 unfold tgtOK at h
 rw[Bool.and_eq_true,Bool.and_eq_true,decide_eq_true_eq,decide_eq_true_eq,Bool.or_eq_true,decide_eq_true_eq] at h
 obtain ⟨⟨ha,hb⟩,hc⟩:=h
 have hlt0:0<s.size:=by omega
 have hlt0':(0:Int)<s.size:=by omega
 have hb0:s[0].toNat<256:=UInt8.toNat_lt _
 have hhd:s.data.toList.head? =some s[0]:=by
  rw[List.head?_eq_getElem?,List.getElem?_eq_getElem (show 0<s.data.toList.length by omega)];rfl
 have hne:s.toList.isEmpty=false:=isN (by omega)
 have hne2: ¬s.toList=[]:=fun e=>by rw[e] at hne;cases hne
 by_cases h1:s.data.toList=[47]
 ·have HL:=hQ (show linkLen s.data.toList=4 by
   rw[h1]
   unfold linkLen
   have e:stripS [47]=[]:=rfl
   rw[e,parts47_nil]
   show 4+linkTo [[]] 1=4
   unfold linkTo
   simp[partLen])
  have hz1:s.size=1:=by rw[←hl,h1];rfl
  have h47:s[0].toNat=47:=by
   rw[h1] at hhd
   injection hhd with hhd
   rw[←hhd];rfl
  have hb47:((s[0].toNat:Int)==47)=true:=by rw[h47];rfl
  have hcz:(s.extract 1 s.size).size=0:=by rw[←len_data,cut_data,h1,hz1];rfl
  have hce:(s.extract 1 s.size).toList.isEmpty=true:=isE hcz
  have hce2:(s.extract 1 s.size).toList=[]:=size0_toList hcz
  have h047:(s[0].toNat:Int)=47:=by rw[h47];rfl
  generalize linkLen s.data.toList=L at*
  clear ha hb hc hl hhd h1 hz1 hcz
  have hi1:(1:Int)≤s.size:=by omega
  go_enter Tryz.func126,Tryz.ntmps126
  go_wp2
  go_ret
  exact ⟨_,rfl,by rw[HL.out];rfl,Below.refl _ _⟩
 ·have hc':tgtTo (parts47 (stripS s.data.toList)) (parts47 (stripS s.data.toList)).length=true:=by
   rcases hc with hc|hc
   ·exact absurd hc h1
   ·exact hc
  have key: ∃(s1 o0:ByteArray),s1.data.toList=stripS s.data.toList∧s1.size≤128∧1≤s1.size∧o0.size=(if s.data.toList.head? =some 47 then 4 else 0)∧((s[0].toNat=47∧s1=s.extract 1 s.size∧o0=⟨#[2,0,0,0]⟩)∨(s[0].toNat≠47∧s1=s∧o0=⟨#[]⟩)):=by
   by_cases h47:s[0].toNat=47
   ·have hhd47:s.data.toList.head? =some 47:=by rw[hhd];congr 1;exact UInt8.toNat_inj.1 h47
    have hcut:(s.extract 1 s.size).data.toList=stripS s.data.toList:=by
     unfold stripS
     rw[if_pos hhd47,cut_data,List.drop_one,List.take_of_length_le (by rw[List.length_tail];omega)]
    have hlen:(s.extract 1 s.size).size=s.size-1:=by
     rw[←len_data,hcut]
     unfold stripS
     rw[if_pos hhd47,List.length_tail,hl]
    refine ⟨_,_,hcut,by omega,?_,?_, .inl ⟨h47,rfl,rfl⟩⟩
    ·rw[hlen]
     rcases Nat.lt_or_ge 1 s.size with h|h
     ·omega
     ·exfalso
      apply h1
      have hlen1:s.data.toList.length=1:=by omega
      generalize s.data.toList=l at*
      match l,hlen1,hhd47 with
      |[x],_,e=>injection e with e;rw[e]
    ·rw[if_pos hhd47];rfl
   ·refine ⟨s,⟨#[]⟩,?_,by omega,by omega,?_, .inr ⟨h47,rfl,rfl⟩⟩
    ·unfold stripS
     rw[if_neg (by rw[hhd];intro e;injection e with e;exact h47 (by rw[e];rfl))]
    ·rw[if_neg (by rw[hhd];intro e;injection e with e;exact h47 (by rw[e];rfl))];rfl
  obtain ⟨s1,o0,hs1d,hz1,hz0,ho0,hcase⟩:=key
  have hoz:o0.size≤4:=by rw[ho0];split <;> omega
  have HSP:=hQ (fun W:World=>r_split s1 W (by omega))
  rw[hs1d] at HSP
  have HL:=hQ (show linkLen s.data.toList=o0.size+linkTo (parts47 (stripS s.data.toList)) (parts47 (stripS s.data.toList)).length by rw[ho0];rfl)
  have HP1:=hQ (parts47_len (stripS s.data.toList))
  have hsl9:(stripS s.data.toList).length≤128:=by rw[←hs1d,len_data];exact hz1
  have hpl9:(parts47 (stripS s.data.toList)).length≤129:=by have:=HP1.out.2;omega
  have HP2:=hQ (fun p hp=>Nat.le_trans (parts47_part_le (stripS s.data.toList) p hp) (by rw[←hs1d,len_data];exact hz1))
  have HC9:=hQ hc'
  have hne1:s1.toList.isEmpty=false:=isN (by omega)
  have hne3: ¬s1.toList=[]:=fun e=>by rw[e] at hne1;cases hne1
  have HCM:=hQ (fun (x:ByteArray) (W:World) (h:nameOK x.data.toList=true)=>r_compress x (uc x.data.toList) W (nameOK_parts h).1 (nameOK_parts h).2.1 (by rw[←len_data];exact (nameOK_parts h).2.2.2.2))
  have HBY:=hQ (fun (n:Nat) (W:World) (hn:n<65536)=>r_bytes n 1 W hn (by omega))
  clear hs1d hhd hl ha hb hc hc' h1 ho0
  generalize parts47 (stripS s.data.toList)=ps at*
  generalize linkLen s.data.toList=L at*
  have hi1:(1:Int)≤s.size:=by omega
  go_enter Tryz.func126,Tryz.ntmps126
  go_upto_if 14 with (fail)
  go_cut [0,3] (fun a o wx=>a= .string s1∧o= .string o0∧wx=w)
  case first=>
   rcases hcase with ⟨h47,rfl,rfl⟩|⟨h47,rfl,rfl⟩
   ·have h47':(s[0].toNat:Int)=47:=by rw[h47];rfl
    go_wp2_with fail
    go_meet
    case rel=>exact ⟨rfl,rfl,rfl⟩
   ·have h47':((s1[0].toNat:Int)==47)=false:=by rw[beq_eq_false_iff_ne];omega
    have h47'': ¬(s1[0].toNat:Int)=47:=by omega
    go_wp2_with fail
    go_meet
    case rel=>exact ⟨rfl,rfl,rfl⟩
  case rest=>
   obtain ⟨rfl,rfl,rfl⟩:=hcut
   go_wp2_with fail
   refine (HSP.out _).mono ?_
   rintro e w1 ⟨v,rfl,hown,hb1⟩
   obtain ⟨g,cap,rfl,hg1,hg2⟩:=hown.form HP1.out.1
   have HC:=hQ (fun k (hk:k<ps.length)=>show w1.cell? ⟨g,k,none⟩=some (strV ps[k]) by
    rw[hown.cellAt k (by omega),strsV,List.getElem?_map,List.getElem?_eq_getElem hk];rfl)
   clear hown
   go_wp2_with fail
   go_loopw [3,5] (fun o i wr=> ∃(k:Nat) (t:ByteArray),k≤ps.length∧i= .int .i64 k∧o= .string t∧(t.size+linkTo ps ps.length=L+linkTo ps k∧t.size≤4+k*300)∧Below w1.heap.size w1 wr) (fun _ i _=>ps.length-(intOf i).toNat)
   case atStart=>exact ⟨0,_,Nat.zero_le _,rfl,rfl,⟨by rw[HL.out];show o0.size+_=o0.size+_+0;omega,by omega⟩,Below.refl _ _⟩
   case round=>
    obtain ⟨k,t,hk,rfl,rfl,⟨hts,htz⟩,hbw⟩:=hrel
    have hpl:=HP1.out.2
    have htb:(t.size:Int)≤50000:=by omega
    have HTZ:=hQ htz
    clear htz
    by_cases hlt:k<ps.length
    ·have hi:(k:Int)<ps.length:=by omega
     have hck:=(hbw.cell hg2).trans (HC.out k hlt)
     have hpz:=HP2.out ps[k] (List.getElem_mem hlt)
     have hst:=linkTo_succ ps k hlt
     have hpt:=tgtTo_part HC9.out k hlt
     generalize ps[k]=p at*
     have HTS:=hQ (show ∀t2:ByteArray,t2.size=t.size+partLen p→t2.size+linkTo ps ps.length=L+linkTo ps (k+1) from fun t2 h=>by omega)
     unfold strV at hck
     obtain ⟨q,hq⟩: ∃q:ByteArray,q=⟨p.toArray⟩:=⟨_,rfl⟩
     have hqd:q.data.toList=p:=by rw[hq]
     rw[←hq] at hck
     have b1:=str_beq q [46]
     have b2:=str_beq q [46,46]
     rw[hqd] at b1 b2
     clear hq hst hts
     by_cases e1:p=[46]
     ·rw[decide_eq_true e1] at b1
      have HF:=hQ (show ∀t2:ByteArray,t2.size=t.size+4→t2.size+linkTo ps ps.length=L+linkTo ps (k+1) from fun t2 h=>HTS.out t2 (by rw[e1,partLen_dot];exact h))
      clear hpt e1 hqd
      go_wp2
      go_roundw
      case rel=>exact ⟨k+1,_,by omega,by go_num,rfl,⟨HF.out _ (by rw[ByteArray.size_append];rfl),by rw[ByteArray.size_append];have:=HTZ.out;show t.size+4≤_;omega⟩,hbw⟩
      case measure=>simp[intOf];omega
     ·rw[decide_eq_false e1] at b1
      by_cases e2:p=[46,46]
      ·rw[decide_eq_true e2] at b2
       have HF:=hQ (show ∀t2:ByteArray,t2.size=t.size+4→t2.size+linkTo ps ps.length=L+linkTo ps (k+1) from fun t2 h=>HTS.out t2 (by rw[e2,partLen_dots];exact h))
       clear hpt e1 e2 hqd
       go_wp2
       go_roundw
       case rel=>exact ⟨k+1,_,by omega,by go_num,rfl,⟨HF.out _ (by rw[ByteArray.size_append];rfl),by rw[ByteArray.size_append];have:=HTZ.out;show t.size+4≤_;omega⟩,hbw⟩
       case measure=>simp[intOf];omega
      ·rw[decide_eq_false e2] at b2
       have hnm:nameOK p=true:=by
        rcases hpt with h|h|h
        ·exact absurd h e1
        ·exact absurd h e2
        ·exact h
       have hq255:=(nameOK_parts hnm).2.2.1
       have HF:=hQ (show ∀t2:ByteArray,t2.size=t.size+(4+sqz (uc p))→t2.size+linkTo ps ps.length=L+linkTo ps (k+1) from fun t2 h=>HTS.out t2 (by rw[partLen_name hnm];exact h))
       have HCQ:=hQ (fun W:World=>HCM.out q W (by rw[hqd];exact hnm))
       rw[hqd] at HCQ
       clear hpt e1 e2 hqd hnm
       generalize sqz (uc p)=z at*
       go_wp2_with fail
       refine (HCQ.out _).mono ?_
       rintro e w2 ⟨c,rfl,hcz,hb2⟩
       have HZ1:=hQ hcz
       have HCZ:=hQ (show c.size<65536 by omega)
       have hcz1:(c.size:Int)≤255:=by omega
       clear hcz
       go_wp2_with fail
       refine (HBY.out c.size w2 HCZ.out).mono ?_
       rintro e w3 ⟨d,rfl,hdz,hb3⟩
       have hdz1:(d.size:Int)≤1:=by omega
       have HZ2:=hQ hdz
       clear hdz
       have hbf:=hbw.trans ((hb2.trans (hb3.mono hb2.size)).mono hbw.size)
       go_wp2
       go_roundw
       case rel=>exact ⟨k+1,_,by omega,by go_num,rfl,⟨HF.out _ (by simp only[ByteArray.size_append,HZ1.out,HZ2.out];show t.size+1+1+2+z=_;omega),by simp only[ByteArray.size_append,HZ1.out,HZ2.out];have:=HTZ.out;show t.size+1+1+2+z≤_;omega⟩,hbf⟩
       case measure=>simp[intOf];omega
    ·have hi:(ps.length:Int)≤k:=by omega
     have HT:=hQ (show t.size=L by rw[show ps.length=k by omega] at hts;omega)
     go_wp2
     go_ret
     exact ⟨_,rfl,HT.out,hb1.trans (hbw.mono hb1.size)⟩
end Go.Proofs.YtbeccmkegckjjaaGreatDoor
end
section
namespace Go.Proofs.YtbeccmkegckjjaaGreatDoor
open Go.RowKit
set_option maxRecDepth 1000000
set_option maxHeartbeats 12800000
theorem partLen_nil:partLen []=0:=by unfold partLen;rw[if_neg (by decide),if_neg (by decide),if_pos rfl]
theorem hasPrefix47(l:List UInt8):Lib.hasPrefix l [47]=decide (l.head? =some 47):=by
 cases l with
 |nil=>rfl
 |cons b r=>
  show ((47:UInt8)==b&&([]:List UInt8).isPrefixOf r)=_
  rw[show ([]:List UInt8).isPrefixOf r=true from by cases r <;> rfl,Bool.and_true]
  by_cases h:b=47
  ·subst h;rfl
  ·rw[decide_eq_false (by rw[List.head?_cons];intro e;injection e with e;exact h e)]
   exact beq_eq_false_iff_ne.2 fun e=>h e.symm
theorem p_components(s:ByteArray)(w:World)(hT:TabsM w)(h:tgtOK s.data.toList=true):
 Calls Tryz.prog 118 #[.string s] w fun e w'=> ∃t:ByteArray,e= .returned (.string t)∧t.size=linkLen s.data.toList∧Below w.heap.size w w':=by
 have hl:s.data.toList.length=s.size:=len_data s
 unfold tgtOK at h
 rw[Bool.and_eq_true,Bool.and_eq_true,decide_eq_true_eq,decide_eq_true_eq,Bool.or_eq_true,decide_eq_true_eq] at h
 obtain ⟨⟨ha,hb⟩,hc⟩:=h
 have hlt0:0<s.size:=by omega
 have hlt0':(0:Int)<s.size:=by omega
 have hall: ∀k,(hk:k<(parts47 (stripS s.data.toList)).length)→(parts47 (stripS s.data.toList))[k]=[]∨(parts47 (stripS s.data.toList))[k]=[46]∨(parts47 (stripS s.data.toList))[k]=[46,46]∨nameOK (parts47 (stripS s.data.toList))[k]=true:=fun k hk=>by
  rcases hc with hc|hc
  ·left
   have e:parts47 (stripS s.data.toList)=[[]]:=by rw[hc];rfl
   simp only[e] at hk ⊢
   have:k=0:=by simpa using hk
   subst this;rfl
  ·exact .inr (tgtTo_part hc k hk)
 have key: ∃(s1 o0:ByteArray),s1.data.toList=stripS s.data.toList∧s1.size≤128∧o0.size=(if s.data.toList.head? =some 47 then 4 else 0)∧((s.data.toList.head? =some 47∧s1=s.extract 1 s.size∧o0=⟨#[2,0,0,0]⟩)∨(¬s.data.toList.head? =some 47∧s1=s∧o0=⟨#[]⟩)):=by
  by_cases h47:s.data.toList.head? =some 47
  ·have hcut:(s.extract 1 s.size).data.toList=stripS s.data.toList:=by
    unfold stripS
    rw[if_pos h47,cut_data,List.drop_one,List.take_of_length_le (by rw[List.length_tail];omega)]
   have hlen:(s.extract 1 s.size).size=s.size-1:=by
    rw[←len_data,hcut]
    unfold stripS
    rw[if_pos h47,List.length_tail,hl]
   exact ⟨_,_,hcut,by omega,by rw[if_pos h47];rfl, .inl ⟨h47,rfl,rfl⟩⟩
  ·exact ⟨s,⟨#[]⟩,by unfold stripS;rw[if_neg h47],by omega,by rw[if_neg h47];rfl, .inr ⟨h47,rfl,rfl⟩⟩
 obtain ⟨s1,o0,hs1d,hz1,ho0,hcase⟩:=key
 have hoz:o0.size≤4:=by rw[ho0];split <;> omega
 have HSP:=hQ (fun (W:World) (hW:TabsM W)=>p_split s1 W hW (by omega))
 rw[hs1d] at HSP
 have HPX:=hQ (fun W:World=>Tryz.strings_HasPrefix s ⟨#[47]⟩ W)
 have ehp:Lib.hasPrefix s.data.toList (⟨#[47]⟩:ByteArray).data.toList=decide (s.data.toList.head? =some 47):=hasPrefix47 _
 rw[ehp] at HPX
 have HL:=hQ (show linkLen s.data.toList=o0.size+linkTo (parts47 (stripS s.data.toList)) (parts47 (stripS s.data.toList)).length by rw[ho0];rfl)
 have HP1:=hQ (parts47_len (stripS s.data.toList))
 have hsl9:(stripS s.data.toList).length≤128:=by rw[←hs1d,len_data];exact hz1
 have hpl9:(parts47 (stripS s.data.toList)).length≤129:=by have:=HP1.out.2;omega
 have HC9:=hQ hall
 have HT:=hQ hT
 have HCM:=hQ (fun (x:ByteArray) (W:World) (hW:Tabs W) (h:nameOK x.data.toList=true)=>p_compress x (uc x.data.toList) W hW (nameOK_parts h).1 (nameOK_parts h).2.1 (by rw[←len_data];exact (nameOK_parts h).2.2.2.2))
 clear hs1d hl ha hb hc hall ho0 ehp hT
 generalize parts47 (stripS s.data.toList)=ps at*
 generalize linkLen s.data.toList=L at*
 have hi1:(1:Int)≤s.size:=by omega
 go_enter Tryz.func118,Tryz.ntmps118
 go_wp2_with fail
 refine (HPX.out _).mono ?_
 rintro e w' ⟨rfl,rfl⟩
 go_upto_if 9 with (fail)
 go_cut [0,3] (fun a o wx=>a= .string s1∧o= .string o0∧ ∃q,wx=w'.drewN q)
 case first=>
  rcases hcase with ⟨h47,rfl,rfl⟩|⟨h47,rfl,rfl⟩
  ·have hd:=decide_eq_true h47
   go_wp2_with fail
   go_quiet (fail)
   go_wp2_with fail
   go_meet
   case rel=>exact ⟨rfl,rfl,_,rfl⟩
  ·have hd:=decide_eq_false h47
   go_wp2_with fail
   go_meet
   case rel=>exact ⟨rfl,rfl,0,rfl⟩
 case rest=>
  obtain ⟨rfl,rfl,q0,rfl⟩:=hcut
  have hb0:=below_drewN (Below.refl w'.heap.size w') q0
  go_wp2_with fail
  refine (HSP.out _ (HT.out.step hb0)).mono ?_
  rintro e w1 ⟨rfl,hw1⟩
  have hb1:Below w'.heap.size w' w1:=by rw[hw1];exact hb0.trans ((below_alloc1 _ _).mono hb0.size)
  have hg2:w'.heap.size<w1.heap.size:=by rw[hw1];show _<(Array.push _ _).size;simp
  have HC:=hQ (fun k (hk:k<ps.length)=>show w1.cell? ⟨w'.heap.size,k,none⟩=some (strV ps[k]) by
   rw[hw1,cell_of_row _ w'.heap.size k (strsV ps).toArray 9 (0,0) (by show (w'.heap.push _)[w'.heap.size]? =_;simp),List.getElem?_toArray,strsV,List.getElem?_map,List.getElem?_eq_getElem hk];rfl)
  have HT1:=hQ (HT.out.step hb1)
  clear hw1 hb0
  go_wp2_with fail
  go_loopw [3,15] (fun o i wr=> ∃(k:Nat) (t:ByteArray),k≤ps.length∧i= .int .i64 k∧o= .string t∧(t.size+linkTo ps ps.length=L+linkTo ps k∧t.size≤4+k*300)∧Below w1.heap.size w1 wr) (fun _ i _=>ps.length-(intOf i).toNat)
  case atStart=>exact ⟨0,_,Nat.zero_le _,rfl,rfl,⟨by rw[HL.out];show o0.size+_=o0.size+_+0;omega,by omega⟩,Below.refl _ _⟩
  case round=>
   obtain ⟨k,t,hk,rfl,rfl,⟨hts,htz⟩,hbw⟩:=hrel
   have hpl:=HP1.out.2
   have htb:(t.size:Int)≤50000:=by omega
   have HTZ:=hQ htz
   clear htz
   by_cases hlt:k<ps.length
   ·have hi:(k:Int)<ps.length:=by omega
    have hck:=(hbw.cell hg2).trans (HC.out k hlt)
    have hst:=linkTo_succ ps k hlt
    have hpt:=HC9.out k hlt
    generalize ps[k]=p at*
    have HTS:=hQ (show ∀t2:ByteArray,t2.size=t.size+partLen p→t2.size+linkTo ps ps.length=L+linkTo ps (k+1) from fun t2 h=>by omega)
    unfold strV at hck
    obtain ⟨q,hq⟩: ∃q:ByteArray,q=⟨p.toArray⟩:=⟨_,rfl⟩
    have hqd:q.data.toList=p:=by rw[hq]
    rw[←hq] at hck
    have b0:=str_beq q []
    have b1:=str_beq q [46]
    have b2:=str_beq q [46,46]
    have b3:q.toList.isEmpty=decide (p=[]):=by rw[ByteArray.toList_eq,hqd];cases p <;> simp
    rw[hqd] at b0 b1 b2
    clear hq hst hts
    by_cases e0:p=[]
    ·rw[decide_eq_true e0] at b0 b3
     have HF:=hQ (show t.size+linkTo ps ps.length=L+linkTo ps (k+1) from HTS.out t (by rw[e0,partLen_nil];rfl))
     have b4:q.toList=[]:=by rw[ByteArray.toList_eq,hqd,e0]
     clear hpt e0 hqd b1 b2
     go_wp2
     go_roundw
     case rel=>exact ⟨k+1,_,by omega,by go_num,rfl,⟨HF.out,by have:=HTZ.out;omega⟩,hbw⟩
     case measure=>simp[intOf];omega
    ·rw[decide_eq_false e0] at b0 b3
     have b4: ¬q.toList=[]:=by rw[ByteArray.toList_eq,hqd];exact e0
     by_cases e1:p=[46]
     ·rw[decide_eq_true e1] at b1
      have HF:=hQ (show ∀t2:ByteArray,t2.size=t.size+4→t2.size+linkTo ps ps.length=L+linkTo ps (k+1) from fun t2 h=>HTS.out t2 (by rw[e1,partLen_dot];exact h))
      clear hpt e0 e1 hqd
      go_wp2
      go_roundw
      case rel=>exact ⟨k+1,_,by omega,by go_num,rfl,⟨HF.out _ (by rw[ByteArray.size_append];rfl),by rw[ByteArray.size_append];have:=HTZ.out;show t.size+4≤_;omega⟩,hbw⟩
      case measure=>simp[intOf];omega
     ·rw[decide_eq_false e1] at b1
      by_cases e2:p=[46,46]
      ·rw[decide_eq_true e2] at b2
       have HF:=hQ (show ∀t2:ByteArray,t2.size=t.size+4→t2.size+linkTo ps ps.length=L+linkTo ps (k+1) from fun t2 h=>HTS.out t2 (by rw[e2,partLen_dots];exact h))
       clear hpt e0 e1 e2 hqd
       go_wp2
       go_roundw
       case rel=>exact ⟨k+1,_,by omega,by go_num,rfl,⟨HF.out _ (by rw[ByteArray.size_append];rfl),by rw[ByteArray.size_append];have:=HTZ.out;show t.size+4≤_;omega⟩,hbw⟩
       case measure=>simp[intOf];omega
      ·rw[decide_eq_false e2] at b2
       have hnm:nameOK p=true:=by
        rcases hpt with h|h|h|h
        ·exact absurd h e0
        ·exact absurd h e1
        ·exact absurd h e2
        ·exact h
       have hq255:=(nameOK_parts hnm).2.2.1
       have HF:=hQ (show ∀t2:ByteArray,t2.size=t.size+(4+sqz (uc p))→t2.size+linkTo ps ps.length=L+linkTo ps (k+1) from fun t2 h=>HTS.out t2 (by rw[partLen_name hnm];exact h))
       have HCQ:=hQ (fun (W:World) (hW:Tabs W)=>HCM.out q W hW (by rw[hqd];exact hnm))
       rw[hqd] at HCQ
       have hTr:=(HT1.out.step hbw).1
       clear hpt e0 e1 e2 hqd hnm
       generalize sqz (uc p)=z at*
       go_wp2_with fail
       refine (HCQ.out _ hTr).mono ?_
       rintro e w2 ⟨c,rfl,hcz,hb2⟩
       have HZ1:=hQ hcz
       have hcz1:(c.size:Int)≤255:=by omega
       have hbf:=hbw.trans (hb2.mono hbw.size)
       clear hcz
       have HB8:=hQ (byte_of c.size (by omega))
       have hcv:Sem.run Tryz.prog (convert 197 9 (.slice (some ⟨w2.heap.size,0,none⟩) 1 1)) (w2.alloc (.cells #[.int .u8 (c.size:Int)] 5))= .ok (.string ⟨#[UInt8.ofNat c.size]⟩) (w2.alloc (.cells #[.int .u8 (c.size:Int)] 5)):=by
        rw[HB8.out]
        exact conv_own [UInt8.ofNat c.size] 1 (World.ownsRow_lit (base:=w2.heap.size) _ _ 1 (Nat.le_refl _) (by decide) rfl)
       have hba:=hbf.alloc hbf.size (.cells #[.int .u8 (c.size:Int)] 5)
       go_wp2
       go_roundw
       case rel=>exact ⟨k+1,_,by omega,by go_num,rfl,⟨HF.out _ (by simp only[ByteArray.size_append,HZ1.out];show t.size+(1+1+2+z)=_;omega),by simp only[ByteArray.size_append,HZ1.out];have:=HTZ.out;show t.size+(1+1+2+z)≤_;omega⟩,hba⟩
       case measure=>simp[intOf];omega
   ·have hi:(ps.length:Int)≤k:=by omega
    have HT:=hQ (show t.size=L by rw[show ps.length=k by omega] at hts;omega)
    go_wp2
    go_ret
    exact ⟨_,rfl,HT.out,hb1.trans (hbw.mono hb1.size)⟩
end Go.Proofs.YtbeccmkegckjjaaGreatDoor
end
section
namespace Go.Proofs.YtbeccmkegckjjaaGreatDoor
open Go.RowKit
set_option maxRecDepth 1000000
set_option maxHeartbeats 12800000
noncomputable def fidsTo(kids:List NF)(k:Nat):Nat:=((kids.take k).map fun x=>fidLen x.name).sum
theorem fidsTo_succ(kids:List NF)(k:Nat)(h:k<kids.length):fidsTo kids (k+1)=fidsTo kids k+fidLen kids[k].name:=sum_take (fun x:NF=>fidLen x.name) kids k h
noncomputable def contLen(f:NF)(kids:List NF):Nat:=if f.kind=2 then linkLen f.target.data.toList else 40+fidsTo kids kids.length
theorem fidLen_le{n:ByteArray}(h:nameOK n.data.toList=true):fidLen n≤400:=by
 have:=(nameOK_parts h).2.2.1
 unfold fidLen rounded
 omega
theorem p_length(f:NF)(kids:List NF)(ka:Option Addr)(kc:Nat)(sa:Option Addr)(sl sc:Nat)(kcs:List (List Value))(B:Nat)(w:World)(hT:TabsM w)(hB:B≤w.heap.size)(hk:RowV w (· < B) (.slice ka kids.length kc) 12 kcs)(hkc:kcs.length=kids.length)
 (hcells: ∀k,(h:k<kids.length)→(h':k<kcs.length)→ ∃(a a2:Option Addr) (l c l2 c2:Nat),kcs[k]=nfCells kids[k] (.slice a l c) (.slice a2 l2 c2)) (hnm: ∀x∈kids,nameOK x.name.data.toList=true) (htg:f.kind=2→tgtOK f.target.data.toList=true) (hlen:kids.length≤64):
 Calls Tryz.prog 45 #[.agg (nfCells f (.slice ka kids.length kc) (.slice sa sl sc)).toArray] w fun e w'=>e= .returned (.int .i64 (contLen f kids:Int))∧Below w.heap.size w w':=by
 have HK:=hQ (fun k (hlt:k<kids.length)=>show ∃b off a a2 l c l2 c2,ka=some ⟨b,off,none⟩∧b<B∧ ∀j x,(nfCells kids[k] (.slice a l c) (.slice a2 l2 c2))[j]? =some x→w.cell? ⟨b,off+k*12+j,none⟩=some x from by
  obtain ⟨b,off,c0,e1,e2,e3⟩:=hk.at (show k<kcs.length by omega)
  obtain ⟨a,a2,l,c,l2,c2,e4⟩:=hcells k hlt (by omega)
  injection e1 with e1 e5
  rw[e4] at e3
  exact ⟨b,off,a,a2,l,c,l2,c2,e1,e2,e3⟩)
 have HB0:=hQ (Box.new (ty:=25) w (nfCells f (.slice ka kids.length kc) (.slice sa sl sc)))
 have hb1:=below_alloc1 w (.cells (nfCells f (.slice ka kids.length kc) (.slice sa sl sc)).toArray 25)
 have HT:=hQ hT
 have HNM:=hQ hnm
 clear hk hkc hcells hT hnm
 unfold nfCells at HB0 hb1 ⊢
 by_cases h2:f.kind=2
 ·have HCL:=hQ (show contLen f kids=linkLen f.target.data.toList by unfold contLen;rw[if_pos h2])
  have HCO:=hQ (fun (W:World) (hW:TabsM W)=>p_components f.target W hW (htg h2))
  have k2:=eqB' h2
  clear htg h2
  generalize contLen f kids=L at*
  generalize linkLen f.target.data.toList=Q at*
  go_enter Tryz.func45,Tryz.ntmps45
  go_upto_region 1 with (fail)
  have hbox:=HB0.out
  have HT1:=hQ (HT.out.step hb1)
  generalize w.alloc _=w1 at*
  have c1:=hbox.cell 1 _ rfl
  have c3:=hbox.cell 3 _ rfl
  go_wp2_with fail
  refine (HCO.out _ HT1.out).mono ?_
  rintro e w2 ⟨t,rfl,ht,hb2⟩
  have HTS:=hQ ht
  clear ht c1 c3 hbox
  go_wp2
  go_ret
  exact ⟨ret_intB (by rw[HTS.out,HCL.out]),hb1.trans (hb2.mono hb1.size)⟩
 ·have HCL:=hQ (show contLen f kids=40+fidsTo kids kids.length by unfold contLen;rw[if_neg h2])
  have HF0:=hQ (fun W:World=>p_fidsize0 W)
  have HF1:=hQ (fun (t:ByteArray) (W:World) (hW:Tabs W) (h:nameOK t.data.toList=true)=>p_fidsize t W hW h)
  have HLE:=hQ (fun (t:ByteArray) (h:nameOK t.data.toList=true)=>fidLen_le h)
  have k2:=neB' h2
  clear htg h2
  generalize contLen f kids=L at*
  unfold fidV at HF0 HF1
  go_enter Tryz.func45,Tryz.ntmps45
  go_upto_region 1 with (fail)
  have hbox:=HB0.out
  generalize w.alloc _=w1 at*
  have c1:=hbox.cell 1 _ rfl
  go_wp2_with fail
  refine (HF0.out _).mono ?_
  rintro e w2 ⟨rfl,hb2⟩
  have hbox2:=hbox.step hb2
  have hbw2:=hb1.trans (hb2.mono hb1.size)
  have c10:=hbox2.cell 10 _ rfl
  clear c1 hbox hb2 hb1 HB0
  go_wp2_with fail
  clear c10
  go_loopw [3,24] (fun s i wr=> ∃(k q:Nat),k≤kids.length∧i= .int .i64 k∧s= .int .i64 (q:Int)∧(q=40+fidsTo kids k∧q≤40+k*400)∧Below w.heap.size w wr) (fun _ i _=>kids.length-(intOf i).toNat)
  case atStart=>exact ⟨0,40,Nat.zero_le _,rfl,rfl,⟨by simp[fidsTo],by omega⟩,hbw2⟩
  case round=>
   obtain ⟨k,q,hk,rfl,rfl,⟨hq,hqb⟩,hbw⟩:=hrel
   by_cases hlt:k<kids.length
   ·have hi:(k:Int)<kids.length:=by omega
    have hqz:(q:Int)≤40000:=by omega
    have hnx:=HNM.out _ (List.getElem_mem hlt)
    have hle:=HLE.out _ hnx
    obtain ⟨b,off,a,a2,l,c,l2,c2,rfl,hbB,hcell⟩:=HK.out k hlt
    have HQ:=hQ (show q+fidLen kids[k].name=40+fidsTo kids (k+1)∧q+fidLen kids[k].name≤40+(k+1)*400 from ⟨by rw[fidsTo_succ kids k hlt];omega,by omega⟩)
    have hcellr: ∀j x,(nfCells kids[k] (.slice a l c) (.slice a2 l2 c2))[j]? =some x→wr.cell? ⟨b,off+k*12+j,none⟩=some x:=fun j x hx=>(hbw.cell (Nat.lt_of_lt_of_le hbB hB)).trans (hcell j x hx)
    have HF:=hQ (fun (W:World) (hW:Tabs W)=>HF1.out kids[k].name W hW hnx)
    have hTr:=HT.out.step hbw
    clear hnx hcell hq hqb
    generalize kids[k]=f' at*
    generalize hfl:fidLen f'.name=fl at*
    have hflz:(fl:Int)≤400:=by omega
    clear hfl
    have HU:=hQ (show nfCells f' (.slice a l c) (.slice a2 l2 c2)=[.string f'.name, .int .i64 f'.kind, .string f'.data, .string f'.target, .int .i64 f'.mode, .int .i64 f'.uid, .int .i64 f'.gid, .int .i64 f'.time, .int .i64 f'.weight, .int .i64 f'.hidden, .slice a l c, .slice a2 l2 c2] from rfl)
    go_upto_region 7 with (first
     |(refine wpList_load_at rfl _ _ rfl b (off+k*12) (nfCells f' (.slice a l c) (.slice a2 l2 c2)) _ rfl hcellr Tryz.underlying25 rfl node_size ?_)
     |(refine wpList_store_row rfl _ _ _ rfl wr.heap.size _ nodeZ (nfCells f' (.slice a l c) (.slice a2 l2 c2)).toArray rfl rfl (heap_alloc_last _ _) 12 node_size rfl rfl (node_one _ _ _ _ _ _ _) ?_)
     |go_in)
    have hst:=box_store 25 wr nodeZ (nfCells f' (.slice a l c) (.slice a2 l2 c2))
    unfold nodeZ at hst
    generalize World.setRow _ _ _=w6 at hst ⊢
    obtain ⟨hbox6,hb6⟩:=hst
    have hT6:=(hTr.step hb6).1
    have d0:=hbox6.cell 0 _ rfl
    have hbw6:=hbw.trans (hb6.mono hbw.size)
    clear hcellr hTr hb6
    go_wp2_with fail
    refine (HF.out _ hT6).mono ?_
    rintro e w7 ⟨rfl,hb7⟩
    have hbw7:=hbw6.trans (hb7.mono hbw6.size)
    clear d0 hbox6
    go_wp2
    go_roundw
    case rel=>exact ⟨k+1,q+fl,by omega,by go_num,by go_num,HQ.out,hbw7⟩
    case measure=>simp[intOf];omega
   ·have hi:(kids.length:Int)≤k:=by omega
    have HR:=hQ (show q=L by rw[HCL.out,hq,show k=kids.length by omega])
    clear hq
    go_wp2
    go_ret
    exact ⟨ret_intB (by rw[HR.out]),hbw⟩
end Go.Proofs.YtbeccmkegckjjaaGreatDoor
end
