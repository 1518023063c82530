/- Law 43, UdfbuildSizes: a part of the proof. -/
import Derived.Test.YtbeccmkegckjjaaGreatDoorQ11
import Derived.Deep.DeepCutAuto
set_option linter.unusedVariables false
set_option linter.ambiguousOpen false
set_option linter.unusedSimpArgs false
section
namespace Go.Proofs.YtbeccmkegckjjaaGreatDoor
open Go.RowKit
set_option maxRecDepth 1000000
set_option maxHeartbeats 3200000
theorem cmp_swap: ∀a b:List UInt8,Lib.compareBytes a b= - Lib.compareBytes b a
 |[],[]=>by decide
 |[],_::_=>by simp[Lib.compareBytes]
 |_::_,[]=>by simp[Lib.compareBytes]
 |x::a,y::b=>by
  have ih:=cmp_swap a b
  unfold Lib.compareBytes
  by_cases h1:x<y
  ·have h2: ¬y<x:=fun h=>absurd (UInt8.lt_trans h1 h) (UInt8.lt_irrefl _)
   simp[h1,h2]
  ·by_cases h2:y<x
   ·simp[h1,h2]
   ·simp[h1,h2,ih]
theorem cmp_zero: ∀a b:List UInt8,Lib.compareBytes a b=0↔a=b
 |[],[]=>by simp[Lib.compareBytes]
 |[],_::_=>by simp[Lib.compareBytes]
 |_::_,[]=>by simp[Lib.compareBytes]
 |x::a,y::b=>by
  have ih:=cmp_zero a b
  unfold Lib.compareBytes
  by_cases h1:x<y
  ·have:x≠y:=fun h=>by rw[h] at h1;exact UInt8.lt_irrefl _ h1
   simp[h1,this]
  ·by_cases h2:y<x
   ·have:x≠y:=fun h=>by rw[h] at h2;exact UInt8.lt_irrefl _ h2
    simp[h1,h2,this]
   ·have:x=y:=UInt8.le_antisymm (UInt8.not_lt.1 h2) (UInt8.not_lt.1 h1)
    simp[ih,this]
theorem ltB_tri(a b:List UInt8):ltB a b=(!decide (b=a)&&!ltB b a):=by
 unfold ltB
 have h1:=cmp_swap a b
 have h2:=cmp_zero b a
 rcases cmp_cases a b with h|h|h
 ·have e:b≠a:=fun e=>by rw[h2.2 e] at h1;omega
  have e2: ¬Lib.compareBytes b a<0:=by omega
  simp[h,e,e2]
 ·have e:b=a:=h2.1 (by omega)
  subst e;simp[h]
 ·have e2:Lib.compareBytes b a<0:=by omega
  simp[h,e2]
theorem less_lt: ∀a b:List UInt8,Op.bytesLess a b=ltB a b
 |[],[]=>by simp[Op.bytesLess,ltB,Lib.compareBytes]
 |[],_::_=>by simp[Op.bytesLess,ltB,Lib.compareBytes]
 |_::_,[]=>by simp[Op.bytesLess,ltB,Lib.compareBytes]
 |x::a,y::b=>by
  have ih:=less_lt a b
  unfold ltB at ih ⊢
  unfold Lib.compareBytes Op.bytesLess
  rw[ih]
  by_cases h1:x<y
  ·simp[h1]
  ·by_cases h2:y<x
   ·have h3: ¬x=y:=fun h=>by rw[h] at h2;exact UInt8.lt_irrefl _ h2
    simp[h1,h2,h3]
   ·have h3:x=y:=UInt8.le_antisymm (UInt8.not_lt.1 h2) (UInt8.not_lt.1 h1)
    subst h3
    simp[UInt8.lt_irrefl]
theorem less_str(a b:ByteArray):Op.bytesLess a.toList b.toList=ltB a.data.toList b.data.toList:=by rw[less_lt,ByteArray.toList_eq,ByteArray.toList_eq]
theorem eq_str(a b:ByteArray):(a.toList==b.toList)=decide (a.data.toList=b.data.toList):=by
 rw[Bool.eq_iff_iff,beq_iff_eq,decide_eq_true_iff,ByteArray.toList_eq,ByteArray.toList_eq]
noncomputable def okTgt(f:NF):Bool:=!decide (f.kind=2)||tgtOK f.target.data.toList
noncomputable def oneOK(f:NF)(names:List ByteArray)(l:Nat):Bool:=
 okKind f l&&(okName f l&&(okParts f names.length&&(okTgt f&&(okNums f&&(okSizes f l&&(okStreams f&&sortedTo names names.length))))))
def NBox(f:NF)(kv sv:Value)(w wx:World):Prop:=Below w.heap.size w wx∧Box 25 w.heap.size (nfCells f kv sv) wx
theorem NBox.step{f:NF}{kv sv:Value}{w wx w':World}(h:NBox f kv sv w wx)(hb:Below wx.heap.size wx w'):NBox f kv sv w w':=⟨h.1.trans (hb.mono h.1.size),h.2.step hb⟩
theorem NBox.drewN{f:NF}{kv sv:Value}{w wx:World}(h:NBox f kv sv w wx)(n:Nat):NBox f kv sv w (wx.drewN n):=h.step (below_drewN (Below.refl _ _) _)
theorem NBox.all{f:NF}{kv sv:Value}{w wx:World}(h:NBox f kv sv w wx):
 wx.cell? ⟨w.heap.size,0,none⟩=some (.string f.name)∧wx.cell? ⟨w.heap.size,1,none⟩=some (.int .i64 f.kind)∧wx.cell? ⟨w.heap.size,2,none⟩=some (.string f.data)∧wx.cell? ⟨w.heap.size,3,none⟩=some (.string f.target)∧
 wx.cell? ⟨w.heap.size,4,none⟩=some (.int .i64 f.mode)∧wx.cell? ⟨w.heap.size,5,none⟩=some (.int .i64 f.uid)∧wx.cell? ⟨w.heap.size,6,none⟩=some (.int .i64 f.gid)∧wx.cell? ⟨w.heap.size,7,none⟩=some (.int .i64 f.time)∧
 wx.cell? ⟨w.heap.size,8,none⟩=some (.int .i64 f.weight)∧wx.cell? ⟨w.heap.size,9,none⟩=some (.int .i64 f.hidden)∧wx.cell? ⟨w.heap.size,10,none⟩=some kv∧wx.cell? ⟨w.heap.size,11,none⟩=some sv:=h.2.all
theorem r_one(f:NF)(ka a:Option Addr)(kc c l B:Nat)(names:List ByteArray)(w:World)(hB:B≤w.heap.size)(hl:1≤l)(hnz:f.name.size≤65536)(htz:f.target.size≤65536)(hd:f.data.size≤262144)
 (hkl:names.length≤64) (hlen:f.streams.length≤40000) (hsz: ∀s∈f.streams,s.1.size≤65536∧s.2.size≤262144)
 (hrow: ∀j,(h:j<f.streams.length)→ ∃b off,a=some ⟨b,off,none⟩∧b<B∧w.cell? ⟨b,off+j*2,none⟩=some (.string f.streams[j].1)∧w.cell? ⟨b,off+j*2+1,none⟩=some (.string f.streams[j].2))
 (hkrow: ∀j,(h:j<names.length)→ ∃b off,ka=some ⟨b,off,none⟩∧b<B∧w.cell? ⟨b,off+j*12,none⟩=some (.string names[j])):
 Calls Tryz.prog 356 #[.agg (nfCells f (.slice ka names.length kc) (.slice a f.streams.length c)).toArray, .int .i64 l] w fun e w'=> ∃n:Int,e= .returned (.int .i64 n)∧(n=0↔oneOK f names l=true)∧Below w.heap.size w w':=by
 have HROW:=hQ hrow
 have HKR:=hQ hkrow
 have HSZ:=hQ hsz
 have HN:=hQ (fun (x:ByteArray) (W:World) (h:x.size≤65536)=>r_name x W h)
 have HTG:=hQ (fun W:World=>r_target f.target W htz)
 have HRG:=hQ (fun (a a2:Option Addr) (l c l2 c2:Nat) (W:World)=>r_ranged f a a2 l c l2 c2 W)
 have HLG:=hQ (fun (W:World) (hb:Below w.heap.size w W)=>r_large f ka a names.length kc c l B W (Nat.le_trans hB hb.size) hd hkl (fun s hs=>(hsz s hs).2) (fun j hj=>by
  obtain ⟨b,off,h1,h2,h3,h4⟩:=hrow j hj
  exact ⟨b,off,h1,h2,(hb.cell (Nat.lt_of_lt_of_le h2 hB)).trans h3,(hb.cell (Nat.lt_of_lt_of_le h2 hB)).trans h4⟩))
 have HOK:=hQ (show oneOK f names l=(okKind f l&&(okName f l&&(okParts f names.length&&(okTgt f&&(okNums f&&(okSizes f l&&(okStreams f&&sortedTo names names.length))))))) from rfl)
 have HR0:=hQ (⟨below_alloc1 _ _,Box.new _ _⟩:NBox f (.slice ka names.length kc) (.slice a f.streams.length c) w (w.alloc (.cells (nfCells f (.slice ka names.length kc) (.slice a f.streams.length c)).toArray 25)))
 have HNZ:=hQ hnz
 clear hrow hkrow hsz hnz htz hd
 unfold nfCells at HR0 HRG HLG ⊢
 go_enter Tryz.func356,Tryz.ntmps356
 go_upto_region 1 with (fail)
 go_cut [23] (fun s wx=>s= .bool (!okKind f l)∧NBox f (.slice ka names.length kc) (.slice a f.streams.length c) w wx)
 case first=>as_aux_lemma=>
  by_cases h1:f.kind<0
  ·have ho:okKind f l=false:=by unfold okKind;rw[decide_eq_false (show ¬0≤f.kind by omega)];simp
   go_wp2_with fail
   go_meet
   case rel=>exact ⟨by rw[ho];rfl,HR0.out⟩
  ·by_cases h2:2<f.kind
   ·have ho:okKind f l=false:=by unfold okKind;rw[decide_eq_false (show ¬f.kind≤2 by omega)];simp
    have h1':0≤f.kind:=by omega
    go_wp2_with fail
    go_meet
    case rel=>exact ⟨by rw[ho];rfl,HR0.out⟩
   ·have h1':0≤f.kind:=by omega
    have h2':f.kind≤2:=by omega
    by_cases h3:l=1
    ·have h3':((l:Int)==1)=true:=by rw[h3];rfl
     by_cases h4:f.kind=0
     ·have ho:okKind f l=true:=by unfold okKind;rw[h3,h4];rfl
      have h4':(f.kind != 0)=false:=by rw[h4];rfl
      have h4'':(f.kind==0)=true:=by rw[h4];rfl
      clear h4 h3
      go_wp2_with fail
      go_meet
      case rel=>exact ⟨by rw[ho];rfl,HR0.out⟩
     ·have ho:okKind f l=false:=by unfold okKind;rw[decide_eq_false h4,decide_eq_true h3];simp
      have h4':(f.kind != 0)=true:=by rw[bne_iff_ne];exact h4
      have h4'':(f.kind==0)=false:=by rw[beq_eq_false_iff_ne];exact h4
      clear h4 h3
      go_wp2_with fail
      go_meet
      case rel=>exact ⟨by rw[ho];rfl,HR0.out⟩
    ·have ho:okKind f l=true:=by unfold okKind;rw[decide_eq_true h1',decide_eq_true h2',decide_eq_false h3];rfl
     have h3':((l:Int)==1)=false:=by rw[beq_eq_false_iff_ne];omega
     go_wp2_with fail
     go_meet
     case rel=>exact ⟨by rw[ho];rfl,HR0.out⟩
 case rest=>
 clear HR0
 obtain ⟨rfl,hR⟩:=hcut
 by_cases hk:okKind f l=true
 rotate_left
 ·have hk':okKind f l=false:=by simpa using hk
  have HF:=hQ (show oneOK f names l=false by rw[HOK.out,hk',Bool.false_and])
  rw[hk']
  go_wp2
  go_ret
  exact ⟨_,rfl,by rw[HF.out];decide,hR.1⟩
 have hkk:f.kind=0∨f.kind=1∨f.kind=2:=by
  unfold okKind at hk
  simp only[Bool.and_eq_true,decide_eq_true_eq] at hk
  omega
 have HOK1:=hQ (show oneOK f names l=(okName f l&&(okParts f names.length&&(okTgt f&&(okNums f&&(okSizes f l&&(okStreams f&&sortedTo names names.length)))))) by rw[HOK.out,hk];rfl)
 rw[hk]
 have HKK:=hQ hkk
 clear HOK hk hkk
 go_upto_region 3 with (fail)
 go_cut [40] (fun s wx=>s= .bool (!okName f l)∧NBox f (.slice ka names.length kc) (.slice a f.streams.length c) w wx)
 case first=>as_aux_lemma=>
  have k0:=hR.all.1
  by_cases h3:l=1
  ·have h3':((l:Int)==1)=true:=by rw[h3];rfl
   have h3'':decide ((1:Int)<l)=false:=by rw[h3];rfl
   by_cases h4:f.name.size=0
   ·have ho:okName f l=true:=by unfold okName;rw[if_pos h3,decide_eq_true h4]
    have e4:=strE h4
    clear h4 h3
    go_wp2_with fail
    go_meet
    case rel=>exact ⟨by rw[ho];rfl,hR⟩
   ·have ho:okName f l=false:=by unfold okName;rw[if_pos h3,decide_eq_false h4]
    have e4:=strN h4
    clear h4 h3
    go_wp2_with fail
    go_meet
    case rel=>exact ⟨by rw[ho];rfl,hR⟩
  ·have ho:okName f l=nameOK f.name.data.toList:=by unfold okName;rw[if_neg h3]
   have h3':((l:Int)==1)=false:=by rw[beq_eq_false_iff_ne];omega
   have h3'':(1:Int)<l:=by omega
   go_wp2_with fail
   refine (HN.out f.name _ HNZ.out).mono ?_
   rintro e w2 ⟨rfl,hb2⟩
   have hR2:=hR.step hb2
   clear k0 h3
   generalize nameOK f.name.data.toList=nm at*
   cases nm
   all_goals
    go_wp2_with fail
    go_meet
    case rel=>exact ⟨by rw[ho];rfl,hR2⟩
 case rest=>
 clear hR
 obtain ⟨rfl,hR⟩:=hcut
 by_cases hk:okName f l=true
 rotate_left
 ·have hk':okName f l=false:=by simpa using hk
  have HF:=hQ (show oneOK f names l=false by rw[HOK1.out,hk',Bool.false_and])
  rw[hk']
  go_wp2
  go_ret
  exact ⟨_,rfl,by rw[HF.out];decide,hR.1⟩
 have HOK2:=hQ (show oneOK f names l=(okParts f names.length&&(okTgt f&&(okNums f&&(okSizes f l&&(okStreams f&&sortedTo names names.length))))) by rw[HOK1.out,hk];rfl)
 rw[hk]
 clear HOK1 hk
 go_upto_region 5 with (fail)
 go_cut [75] (fun s wx=>s= .bool (!okParts f names.length)∧NBox f (.slice ka names.length kc) (.slice a f.streams.length c) w wx)
 case first=>as_aux_lemma=>
  have HP:=hQ (show okParts f names.length=partsB (decide (f.kind=1)) (decide (f.data.size=0)) (decide (f.streams.length=0)) (decide (f.kind=2)) (decide (f.target.size=0)) (decide (f.kind=0)) (decide (names.length=0)) from rfl)
  have HNB:=hQ hR
  obtain ⟨k0,k1,k2,k3, -, -, -, -, -, -,k10,k11⟩:=hR.all
  clear hR
  clear HKR HROW HSZ HLG HRG HTG HN HOK2
  generalize names.length=kl at*
  generalize f.streams.length=sl at*
  have hkk:=HKK.out
  rcases hkk with h|h|h
  ·have x0:(f.kind != 0)=false:=eqB h;have x0e:(f.kind==0)=true:=eqB' h;have D0:=hQ (decide_eq_true h:decide (f.kind=0)=true)
   have n1:f.kind≠1:=by omega
   have x1:(f.kind != 1)=true:=neB n1;have x1e:(f.kind==1)=false:=neB' n1;have D1:=hQ (decide_eq_false n1:decide (f.kind=1)=false)
   have n2:f.kind≠2:=by omega
   have x2:(f.kind != 2)=true:=neB n2;have x2e:(f.kind==2)=false:=neB' n2;have D2:=hQ (decide_eq_false n2:decide (f.kind=2)=false)
   clear h n1 n2
   by_cases h:f.data.size=0
   ·have ed:=strE h
    have Dd:=hQ (decide_eq_true h:decide (f.data.size=0)=true)
    clear h
    by_cases h:sl=0
    ·have es:decide ((0:Int)<sl)=false:=decide_eq_false (by omega);have es2:decide (0<sl)=false:=decide_eq_false (by omega)
     have Ds:=hQ (decide_eq_true h:decide (sl=0)=true)
     clear h
     by_cases h:f.target.size=0
     ·have et:=strE h
      have Dt:=hQ (decide_eq_true h:decide (f.target.size=0)=true)
      clear h
      have HR:=hQ (show okParts f kl=true by rw[HP.out];simp only[partsB,D0.out,D1.out,D2.out,Dd.out,Ds.out,Dt.out,Bool.true_or,Bool.or_true,Bool.false_or,Bool.or_false,Bool.true_and,Bool.and_true,Bool.false_and,Bool.and_false])
      clear HP
      go_wp2_with fail
      go_meet
      case rel=>exact ⟨by rw[HR.out];rfl,HNB.out⟩
     ·have et:=strN h
      have Dt:=hQ (decide_eq_false h:decide (f.target.size=0)=false)
      clear h
      have HR:=hQ (show okParts f kl=false by rw[HP.out];simp only[partsB,D0.out,D1.out,D2.out,Dd.out,Ds.out,Dt.out,Bool.true_or,Bool.or_true,Bool.false_or,Bool.or_false,Bool.true_and,Bool.and_true,Bool.false_and,Bool.and_false])
      clear HP
      go_wp2_with fail
      go_meet
      case rel=>exact ⟨by rw[HR.out];rfl,HNB.out⟩
    ·have es:decide ((0:Int)<sl)=true:=decide_eq_true (by omega);have es2:decide (0<sl)=true:=decide_eq_true (by omega)
     have Ds:=hQ (decide_eq_false h:decide (sl=0)=false)
     clear h
     have HR:=hQ (show okParts f kl=false by rw[HP.out];simp only[partsB,D0.out,D1.out,D2.out,Dd.out,Ds.out,Bool.true_or,Bool.or_true,Bool.false_or,Bool.or_false,Bool.true_and,Bool.and_true,Bool.false_and,Bool.and_false])
     clear HP
     go_wp2_with fail
     go_meet
     case rel=>exact ⟨by rw[HR.out];rfl,HNB.out⟩
   ·have ed:=strN h
    have Dd:=hQ (decide_eq_false h:decide (f.data.size=0)=false)
    clear h
    have HR:=hQ (show okParts f kl=false by rw[HP.out];simp only[partsB,D0.out,D1.out,D2.out,Dd.out,Bool.true_or,Bool.or_true,Bool.false_or,Bool.or_false,Bool.true_and,Bool.and_true,Bool.false_and,Bool.and_false])
    clear HP
    go_wp2_with fail
    go_meet
    case rel=>exact ⟨by rw[HR.out];rfl,HNB.out⟩
  ·have n0:f.kind≠0:=by omega
   have x0:(f.kind != 0)=true:=neB n0;have x0e:(f.kind==0)=false:=neB' n0;have D0:=hQ (decide_eq_false n0:decide (f.kind=0)=false)
   have x1:(f.kind != 1)=false:=eqB h;have x1e:(f.kind==1)=true:=eqB' h;have D1:=hQ (decide_eq_true h:decide (f.kind=1)=true)
   have n2:f.kind≠2:=by omega
   have x2:(f.kind != 2)=true:=neB n2;have x2e:(f.kind==2)=false:=neB' n2;have D2:=hQ (decide_eq_false n2:decide (f.kind=2)=false)
   clear h n0 n2
   by_cases h:f.target.size=0
   ·have et:=strE h
    have Dt:=hQ (decide_eq_true h:decide (f.target.size=0)=true)
    clear h
    by_cases h:kl=0
    ·have ek:decide ((0:Int)<kl)=false:=decide_eq_false (by omega);have ek2:decide (0<kl)=false:=decide_eq_false (by omega)
     have Dk:=hQ (decide_eq_true h:decide (kl=0)=true)
     clear h
     have HR:=hQ (show okParts f kl=true by rw[HP.out];simp only[partsB,D0.out,D1.out,D2.out,Dt.out,Dk.out,Bool.true_or,Bool.or_true,Bool.false_or,Bool.or_false,Bool.true_and,Bool.and_true,Bool.false_and,Bool.and_false])
     clear HP
     go_wp2_with fail
     go_meet
     case rel=>exact ⟨by rw[HR.out];rfl,HNB.out⟩
    ·have ek:decide ((0:Int)<kl)=true:=decide_eq_true (by omega);have ek2:decide (0<kl)=true:=decide_eq_true (by omega)
     have Dk:=hQ (decide_eq_false h:decide (kl=0)=false)
     clear h
     have HR:=hQ (show okParts f kl=false by rw[HP.out];simp only[partsB,D0.out,D1.out,D2.out,Dt.out,Dk.out,Bool.true_or,Bool.or_true,Bool.false_or,Bool.or_false,Bool.true_and,Bool.and_true,Bool.false_and,Bool.and_false])
     clear HP
     go_wp2_with fail
     go_meet
     case rel=>exact ⟨by rw[HR.out];rfl,HNB.out⟩
   ·have et:=strN h
    have Dt:=hQ (decide_eq_false h:decide (f.target.size=0)=false)
    clear h
    have HR:=hQ (show okParts f kl=false by rw[HP.out];simp only[partsB,D0.out,D1.out,D2.out,Dt.out,Bool.true_or,Bool.or_true,Bool.false_or,Bool.or_false,Bool.true_and,Bool.and_true,Bool.false_and,Bool.and_false])
    clear HP
    go_wp2_with fail
    go_meet
    case rel=>exact ⟨by rw[HR.out];rfl,HNB.out⟩
  ·have n0:f.kind≠0:=by omega
   have x0:(f.kind != 0)=true:=neB n0;have x0e:(f.kind==0)=false:=neB' n0;have D0:=hQ (decide_eq_false n0:decide (f.kind=0)=false)
   have n1:f.kind≠1:=by omega
   have x1:(f.kind != 1)=true:=neB n1;have x1e:(f.kind==1)=false:=neB' n1;have D1:=hQ (decide_eq_false n1:decide (f.kind=1)=false)
   have x2:(f.kind != 2)=false:=eqB h;have x2e:(f.kind==2)=true:=eqB' h;have D2:=hQ (decide_eq_true h:decide (f.kind=2)=true)
   clear h n0 n1
   by_cases h:f.data.size=0
   ·have ed:=strE h
    have Dd:=hQ (decide_eq_true h:decide (f.data.size=0)=true)
    clear h
    by_cases h:sl=0
    ·have es:decide ((0:Int)<sl)=false:=decide_eq_false (by omega);have es2:decide (0<sl)=false:=decide_eq_false (by omega)
     have Ds:=hQ (decide_eq_true h:decide (sl=0)=true)
     clear h
     by_cases h:kl=0
     ·have ek:decide ((0:Int)<kl)=false:=decide_eq_false (by omega);have ek2:decide (0<kl)=false:=decide_eq_false (by omega)
      have Dk:=hQ (decide_eq_true h:decide (kl=0)=true)
      clear h
      have HR:=hQ (show okParts f kl=true by rw[HP.out];simp only[partsB,D0.out,D1.out,D2.out,Dd.out,Ds.out,Dk.out,Bool.true_or,Bool.or_true,Bool.false_or,Bool.or_false,Bool.true_and,Bool.and_true,Bool.false_and,Bool.and_false])
      clear HP
      go_wp2_with fail
      go_meet
      case rel=>exact ⟨by rw[HR.out];rfl,HNB.out⟩
     ·have ek:decide ((0:Int)<kl)=true:=decide_eq_true (by omega);have ek2:decide (0<kl)=true:=decide_eq_true (by omega)
      have Dk:=hQ (decide_eq_false h:decide (kl=0)=false)
      clear h
      have HR:=hQ (show okParts f kl=false by rw[HP.out];simp only[partsB,D0.out,D1.out,D2.out,Dd.out,Ds.out,Dk.out,Bool.true_or,Bool.or_true,Bool.false_or,Bool.or_false,Bool.true_and,Bool.and_true,Bool.false_and,Bool.and_false])
      clear HP
      go_wp2_with fail
      go_meet
      case rel=>exact ⟨by rw[HR.out];rfl,HNB.out⟩
    ·have es:decide ((0:Int)<sl)=true:=decide_eq_true (by omega);have es2:decide (0<sl)=true:=decide_eq_true (by omega)
     have Ds:=hQ (decide_eq_false h:decide (sl=0)=false)
     clear h
     have HR:=hQ (show okParts f kl=false by rw[HP.out];simp only[partsB,D0.out,D1.out,D2.out,Dd.out,Ds.out,Bool.true_or,Bool.or_true,Bool.false_or,Bool.or_false,Bool.true_and,Bool.and_true,Bool.false_and,Bool.and_false])
     clear HP
     go_wp2_with fail
     go_meet
     case rel=>exact ⟨by rw[HR.out];rfl,HNB.out⟩
   ·have ed:=strN h
    have Dd:=hQ (decide_eq_false h:decide (f.data.size=0)=false)
    clear h
    have HR:=hQ (show okParts f kl=false by rw[HP.out];simp only[partsB,D0.out,D1.out,D2.out,Dd.out,Bool.true_or,Bool.or_true,Bool.false_or,Bool.or_false,Bool.true_and,Bool.and_true,Bool.false_and,Bool.and_false])
    clear HP
    go_wp2_with fail
    go_meet
    case rel=>exact ⟨by rw[HR.out];rfl,HNB.out⟩
 case rest=>
 clear hR
 obtain ⟨rfl,hR⟩:=hcut
 by_cases hk:okParts f names.length=true
 rotate_left
 ·have hk':okParts f names.length=false:=by simpa using hk
  have HF:=hQ (show oneOK f names l=false by rw[HOK2.out,hk',Bool.false_and])
  rw[hk']
  go_wp2
  go_ret
  exact ⟨_,rfl,by rw[HF.out];decide,hR.1⟩
 have HOK3:=hQ (show oneOK f names l=(okTgt f&&(okNums f&&(okSizes f l&&(okStreams f&&sortedTo names names.length)))) by rw[HOK2.out,hk];rfl)
 rw[hk]
 clear HOK2 hk
 go_upto_region 7 with (fail)
 go_cut [84] (fun s wx=>s= .bool (!okTgt f)∧NBox f (.slice ka names.length kc) (.slice a f.streams.length c) w wx)
 case first=>as_aux_lemma=>
  obtain ⟨k0,k1,k2,k3, -⟩:=hR.all
  have HP:=hQ (show okTgt f=(!decide (f.kind=2)||tgtOK f.target.data.toList) from rfl)
  by_cases h:f.kind=2
  ·have x2e:(f.kind==2)=true:=eqB' h
   have HR:=hQ (show okTgt f=tgtOK f.target.data.toList by rw[HP.out,decide_eq_true h];rfl)
   clear h HP
   generalize tgtOK f.target.data.toList=tg at*
   go_wp2_with fail
   refine (HTG.out _).mono ?_
   rintro e w2 ⟨rfl,hb2⟩
   have hR2:=hR.step hb2
   go_wp2_with fail
   go_meet
   case rel=>exact ⟨by rw[HR.out],hR2⟩
  ·have x2e:(f.kind==2)=false:=neB' h
   have HR:=hQ (show okTgt f=true by rw[HP.out,decide_eq_false h];rfl)
   clear h HP
   go_wp2_with fail
   go_meet
   case rel=>exact ⟨by rw[HR.out];rfl,hR⟩
 case rest=>
 clear hR
 obtain ⟨rfl,hR⟩:=hcut
 by_cases hk:okTgt f=true
 rotate_left
 ·have hk':okTgt f=false:=by simpa using hk
  have HF:=hQ (show oneOK f names l=false by rw[HOK3.out,hk',Bool.false_and])
  rw[hk']
  go_wp2
  go_ret
  exact ⟨_,rfl,by rw[HF.out];decide,hR.1⟩
 have HOK4:=hQ (show oneOK f names l=(okNums f&&(okSizes f l&&(okStreams f&&sortedTo names names.length))) by rw[HOK3.out,hk];rfl)
 rw[hk]
 clear HOK3 hk
 obtain ⟨k0,k1,k2,k3,k4,k5,k6,k7,k8,k9,k10,k11⟩:=hR.all
 go_wp2_with fail
 refine (HRG.out _ _ _ _ _ _ _).mono ?_
 rintro e w2 ⟨rfl,hb2⟩
 have hR2:=hR.step hb2
 clear k0 k1 k2 k3 k4 k5 k6 k7 k8 k9 k10 k11 hR hb2
 by_cases hk:okNums f=true
 rotate_left
 ·have hk':okNums f=false:=by simpa using hk
  have HF:=hQ (show oneOK f names l=false by rw[HOK4.out,hk',Bool.false_and])
  rw[hk']
  go_wp2
  go_ret
  exact ⟨_,rfl,by rw[HF.out];decide,hR2.1⟩
 have HOK5:=hQ (show oneOK f names l=(okSizes f l&&(okStreams f&&sortedTo names names.length)) by rw[HOK4.out,hk];rfl)
 rw[hk]
 clear HOK4 hk
 obtain ⟨k0,k1,k2,k3,k4,k5,k6,k7,k8,k9,k10,k11⟩:=hR2.all
 go_wp2_with fail
 refine (HLG.out _ hR2.1).mono ?_
 rintro e w3 ⟨rfl,hb3⟩
 have hR3:=hR2.step hb3
 clear k0 k1 k2 k3 k4 k5 k6 k7 k8 k9 k10 k11 hR2 hb3
 by_cases hk:okSizes f l=true
 rotate_left
 ·have hk':okSizes f l=false:=by simpa using hk
  have HF:=hQ (show oneOK f names l=false by rw[HOK5.out,hk',Bool.false_and])
  rw[hk']
  go_wp2
  go_ret
  exact ⟨_,rfl,by rw[HF.out];decide,hR3.1⟩
 have HOK6:=hQ (show oneOK f names l=(okStreams f&&sortedTo names names.length) by rw[HOK5.out,hk];rfl)
 have HOKS:=hQ (show okStreams f=(namesOK f.streams f.streams.length&&sortedTo (f.streams.map (·.1)) f.streams.length) from rfl)
 rw[hk]
 clear HOK5 hk
 go_wp2_with fail
 go_loopw [5] (fun i wr=> ∃k:Nat,k≤f.streams.length∧i= .int .i64 k∧NBox f (.slice ka names.length kc) (.slice a f.streams.length c) w wr∧namesOK f.streams k=true∧sortedTo (f.streams.map (·.1)) k=true) (fun i _=>f.streams.length-(intOf i).toNat)
 case atStart=>exact ⟨0,Nat.zero_le _,rfl,hR3,rfl,rfl⟩
 case round=>as_aux_lemma=>
  obtain ⟨k,hk,rfl,hbox,hnk,hsk⟩:=hrel
  clear hR3
  have c11:=hbox.2.cell 11 _ rfl
  by_cases hlt:k<f.streams.length
  ·have hi:(k:Int)<f.streams.length:=by omega
   obtain ⟨b,off,rfl,hbB,hcell,hcell2⟩:=HROW.out k hlt
   have d0:=(hbox.1.cell (Nat.lt_of_lt_of_le hbB hB)).trans hcell
   have hz:=(HSZ.out f.streams[k] (List.getElem_mem hlt)).1
   have HNS:=hQ (namesOK_succ f.streams k hlt)
   have HNM:=hQ (namesOK_mono f.streams (k+1))
   have hsl:(f.streams.map (·.1)).length=f.streams.length:=by simp
   have HSM:=hQ (fun h=>sortedTo_mono (f.streams.map (·.1)) (k+1) f.streams.length hlt h)
   have HPREV:=hQ (show 0<k→ ∃p0:ByteArray,(wr.cell? ⟨b,off+(k-1)*2,none⟩=some (.string p0)∧b<wr.heap.size)∧sortedTo (f.streams.map (·.1)) (k+1)=ltB p0.data.toList f.streams[k].1.data.toList from fun h0=>by
    obtain ⟨b2,off2,hh,hbB2,hc2,_⟩:=HROW.out (k-1) (by omega)
    injection hh with hh
    injection hh with hh1 hh2
    subst hh1 hh2
    refine ⟨_,⟨(hbox.1.cell (Nat.lt_of_lt_of_le hbB hB)).trans hc2,Nat.lt_of_lt_of_le (Nat.lt_of_lt_of_le hbB hB) hbox.1.size⟩,?_⟩
    rw[sortedTo_succ _ k h0,hsk,Bool.true_and,List.getD_eq_getElem?_getD,List.getD_eq_getElem?_getD,List.getElem?_eq_getElem (show k-1<(f.streams.map (·.1)).length by rw[hsl];omega),List.getElem?_eq_getElem (show k<(f.streams.map (·.1)).length by rw[hsl];omega)]
    simp)
   have hbl:b<wr.heap.size:=Nat.lt_of_lt_of_le (Nat.lt_of_lt_of_le hbB hB) hbox.1.size
   rw[hnk,Bool.true_and] at HNS
   clear hcell hcell2 hsl
   generalize f.streams[k]=st at*
   obtain ⟨s1,s2⟩:=st
   dsimp only at d0 hz HNS HPREV
   go_wp2_with fail
   refine (HN.out s1 _ hz).mono ?_
   rintro e w4 ⟨rfl,hb4⟩
   have hR4:=hbox.step hb4
   have e0:=(hb4.cell hbl).trans d0
   have e11:=hR4.2.cell 11 _ rfl
   clear d0 c11
   generalize nameOK s1.data.toList=nm at*
   cases nm
   ·have HF:=hQ (show oneOK f names l=false by rw[HOK6.out,HOKS.out,HNM.out HNS.out];simp)
    go_wp2
    go_ret
    exact ⟨_,rfl,by rw[HF.out];decide,hR4.1⟩
   ·by_cases hk0:k=0
    ·have hk0':((k:Int))≤0:=by omega
     have HS1:=hQ (show sortedTo (f.streams.map (·.1)) (k+1)=true by rw[hk0];rfl)
     clear HPREV HSM HNM
     go_wp2_with fail
     go_quiet (fail)
     go_wp2_with fail
     go_quiet (fail)
     go_wp2
     go_roundw
     case rel=>exact ⟨k+1,by omega,by go_num,by first|exact hR4|exact hR4.drewN _|exact (hR4.drewN _).drewN _,HNS.out,HS1.out⟩
     case measure=>simp[intOf];omega
    ·have hk1:(0:Int)<k:=by omega
     obtain ⟨p0,⟨hp0, -⟩,hs0⟩:=HPREV.out (by omega)
     have d2:=(hb4.cell hbl).trans hp0
     obtain ⟨m,rfl⟩: ∃m,k=m+1:=⟨k-1,by omega⟩
     have hm1:((m+1:Nat):Int)-1=m:=by omega
     simp only[Nat.add_sub_cancel] at d2
     have hi2:(m:Int)<f.streams.length:=by omega
     have HS0:=hQ (hs0.trans (ltB_tri _ _))
     have q1:=eq_str s1 p0
     have q2:=less_str s1 p0
     clear hs0 hp0
     generalize decide (s1.data.toList=p0.data.toList)=eqb at*
     generalize ltB s1.data.toList p0.data.toList=ltb at*
     cases eqb
     ·cases ltb
      ·go_wp2_with fail
       go_quiet (fail)
       go_wp2_with fail
       go_quiet (fail)
       go_wp2
       go_roundw
       case rel=>exact ⟨m+1+1,by omega,by go_num,by first|exact hR4|exact hR4.drewN _|exact (hR4.drewN _).drewN _,HNS.out,HS0.out⟩
       case measure=>simp[intOf];omega
      ·have HF:=hQ (show oneOK f names l=false by rw[HOK6.out,HOKS.out,HSM.out HS0.out];simp)
       go_wp2_with fail
       go_quiet (fail)
       go_wp2_with fail
       go_quiet (fail)
       go_wp2
       go_ret
       exact ⟨_,rfl,by rw[HF.out];decide,by first|exact hR4.1|exact (hR4.drewN _).1|exact ((hR4.drewN _).drewN _).1⟩
     ·have HF:=hQ (show oneOK f names l=false by rw[HOK6.out,HOKS.out,HSM.out HS0.out];simp)
      go_wp2_with fail
      go_quiet (fail)
      go_wp2
      go_ret
      exact ⟨_,rfl,by rw[HF.out];decide,by first|exact hR4.1|exact (hR4.drewN _).1|exact ((hR4.drewN _).drewN _).1⟩
  ·have hi:(f.streams.length:Int)≤k:=by omega
   have HS:=hQ (show oneOK f names l=sortedTo names names.length by rw[HOK6.out,HOKS.out,show f.streams.length=k by omega,hnk,hsk];rfl)
   have HR5:=hQ hbox
   clear HOK6 HOKS hnk hsk HSZ HN
   go_wp2_with fail
   go_loopw [6] (fun i wr=> ∃k:Nat,1≤k∧(names.length=0∨k≤names.length)∧i= .int .i64 k∧NBox f (.slice ka names.length kc) (.slice a f.streams.length c) w wr∧sortedTo names k=true) (fun i _=>names.length-(intOf i).toNat)
   case atStart=>exact ⟨1,Nat.le_refl _,by omega,rfl,HR5.out,rfl⟩
   case round=>as_aux_lemma=>
    rename_i wr0 wr hrel
    obtain ⟨j,hj1,hj2,rfl,hbox2,hsj⟩:=hrel
    have c10:=hbox2.2.cell 10 _ rfl
    clear c11 hbox HR5 hk hi
    by_cases hlt:j<names.length
    ·have hi:(j:Int)<names.length:=by omega
     obtain ⟨m,rfl⟩: ∃m,j=m+1:=⟨j-1,by omega⟩
     obtain ⟨b,off,rfl,hbB,hcell⟩:=HKR.out (m+1) hlt
     obtain ⟨b2,off2,hh,hbB2,hc2⟩:=HKR.out m (by omega)
     injection hh with hh
     injection hh with hh1 hh2
     subst hh1 hh2
     have d1:=(hbox2.1.cell (Nat.lt_of_lt_of_le hbB hB)).trans hcell
     have d2:=(hbox2.1.cell (Nat.lt_of_lt_of_le hbB hB)).trans hc2
     have hm1:((m+1:Nat):Int)-1=m:=by omega
     have hi2:(m:Int)<names.length:=by omega
     have HSM:=hQ (fun h=>sortedTo_mono names (m+1+1) names.length hlt h)
     have hs0:sortedTo names (m+1+1)=ltB names[m].data.toList names[m+1].data.toList:=by
      rw[sortedTo_succ _ (m+1) (by omega),hsj,Bool.true_and,List.getD_eq_getElem?_getD,List.getD_eq_getElem?_getD,Nat.add_sub_cancel,List.getElem?_eq_getElem (show m<names.length by omega),List.getElem?_eq_getElem hlt];rfl
     have HS0:=hQ (hs0.trans (ltB_tri _ _))
     have q1:=eq_str names[m+1] names[m]
     have q2:=less_str names[m+1] names[m]
     clear hs0 hcell hc2 hsj
     generalize decide (names[m+1].data.toList=names[m].data.toList)=eqb at*
     generalize ltB names[m+1].data.toList names[m].data.toList=ltb at*
     generalize names[m+1]=s1 at*
     generalize names[m]=s2 at*
     cases eqb
     ·cases ltb
      ·go_wp2_with fail
       go_quiet (fail)
       go_wp2_with fail
       go_quiet (fail)
       go_wp2
       go_roundw
       case rel=>exact ⟨m+1+1,by omega,by omega,by go_num,by first|exact hbox2|exact hbox2.drewN _|exact (hbox2.drewN _).drewN _,HS0.out⟩
       case measure=>simp[intOf];omega
      ·have HF:=hQ (show oneOK f names l=false by rw[HS.out,HSM.out HS0.out])
       go_wp2_with fail
       go_quiet (fail)
       go_wp2_with fail
       go_quiet (fail)
       go_wp2
       go_ret
       exact ⟨_,rfl,by rw[HF.out];decide,by first|exact hbox2.1|exact (hbox2.drewN _).1|exact ((hbox2.drewN _).drewN _).1⟩
     ·have HF:=hQ (show oneOK f names l=false by rw[HS.out,HSM.out HS0.out])
      go_wp2_with fail
      go_quiet (fail)
      go_wp2
      go_ret
      exact ⟨_,rfl,by rw[HF.out];decide,by first|exact hbox2.1|exact (hbox2.drewN _).1|exact ((hbox2.drewN _).drewN _).1⟩
    ·have hi:(names.length:Int)≤j:=by omega
     have HT:=hQ (show oneOK f names l=true by
      rw[HS.out]
      rcases hj2 with h|h
      ·rw[h];rfl
      ·rw[show names.length=j by omega,hsj])
     go_wp2
     go_ret
     exact ⟨_,rfl,by rw[HT.out];decide,hbox2.1⟩
end Go.Proofs.YtbeccmkegckjjaaGreatDoor
end
