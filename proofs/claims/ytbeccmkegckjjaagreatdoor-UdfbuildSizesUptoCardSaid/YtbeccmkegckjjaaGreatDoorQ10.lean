/- Law 43, UdfbuildSizes: a part of the proof. -/
import Derived.Test.YtbeccmkegckjjaaGreatDoorQ09
import Derived.Deep.AppendLies
set_option linter.unusedVariables false
set_option linter.ambiguousOpen false
set_option linter.unusedSimpArgs false
section
namespace Go.Proofs.YtbeccmkegckjjaaGreatDoor
open Go.RowKit
set_option maxRecDepth 1000000
set_option maxHeartbeats 3200000
def spStep(x:List (List UInt8) × List UInt8)(b:UInt8):List (List UInt8) × List UInt8:=if b.toNat=47 then (x.1++[x.2],[]) else (x.1,x.2++[b])
def spSt(l:List UInt8):List (List UInt8) × List UInt8:=l.foldl spStep ([],[])
def parts47(l:List UInt8):List (List UInt8):=(spSt l).1++[(spSt l).2]
theorem spSt_snoc(l:List UInt8)(b:UInt8):spSt (l++[b])=spStep (spSt l) b:=by unfold spSt;rw[List.foldl_append];rfl
theorem spSt_len: ∀(n:Nat) (l:List UInt8),l.length=n→(spSt l).1.length≤n∧(spSt l).2.length≤n
 |0,l,h=>by rw[List.length_eq_zero_iff.1 h];exact ⟨Nat.le_refl _,Nat.le_refl _⟩
 |n+1,l,h=>by
  have hne:l≠[]:=fun e=>by rw[e] at h;cases h
  have e:=List.dropLast_concat_getLast hne
  have hl:l.dropLast.length=n:=by rw[List.length_dropLast,h];rfl
  have ih:=spSt_len n l.dropLast hl
  rw[←e,spSt_snoc]
  unfold spStep
  split
  ·simp only[List.length_append,List.length_cons,List.length_nil];omega
  ·simp only[List.length_append,List.length_cons,List.length_nil];omega
def strV(l:List UInt8):Value:= .string ⟨l.toArray⟩
def strsV(l:List (List UInt8)):List Value:=l.map strV
theorem strsV_snoc(a:List (List UInt8))(p:List UInt8):strsV (a++[p])=strsV a++[strV p]:=by simp[strsV]
theorem info_str:(Tryz.prog.info? 9).map (fun i=>(i.zero,i.size,i.bytes))=some (some (.string ⟨#[]⟩),1,16):=by kernel_rfl
def SpRel(s:ByteArray)(w:World)(out part i:Value)(wr:World):Prop:= ∃k:Nat,i= .int .i64 k∧k≤s.size∧part=strV (spSt (s.data.toList.take k)).2∧wr.ownsRow w.heap.size 9 1 out (spSt (s.data.toList.take k)).1.length (strsV (spSt (s.data.toList.take k)).1)∧Below w.heap.size w wr
theorem r_split(s:ByteArray)(w:World)(hz:s.size≤65536):
 Calls Tryz.prog 223 #[.string s, .int .u8 47] w fun e w'=> ∃v,e= .returned v∧w'.ownsRow w.heap.size 9 1 v (parts47 s.data.toList).length (strsV (parts47 s.data.toList))∧Below w.heap.size w w':=by
 obtain ⟨i0,hi,hz0,hz1,hz2⟩:=info_parts info_str
 have hs0:(s.size:Int)≤65536:=by omega
 have own0:(w.alloc (.cells #[] 9)).ownsRow w.heap.size 9 1 (.slice (some ⟨w.heap.size,0,none⟩) 0 0) ([]:List (List UInt8)).length (strsV []):=World.ownsRow_lit _ _ 0 (Nat.le_refl _) (by decide) rfl
 have H0:Hid (SpRel s w (.slice (some ⟨w.heap.size,0,none⟩) 0 0) (.string ⟨#[]⟩) (.int .i64 0) (w.alloc (.cells #[] 9))):=⟨0,rfl,Nat.zero_le _,rfl,own0,below_alloc1 _ _⟩
 clear own0
 go_enter Tryz.func223,Tryz.ntmps223
 go_wp2_with fail
 go_loopw [5,6,7] (fun out part i wr=>SpRel s w out part i wr) (fun _ _ i _=>s.size-(intOf i).toNat)
 case atStart=>exact H0.out
 case round=>
  obtain ⟨k,rfl,hk,rfl,hown,hbw⟩:=hrel
  clear H0
  have hl:=spSt_len k (s.data.toList.take k) (by rw[List.length_take,len_data];omega)
  by_cases hlt:k<s.size
  ·have hb:s[k].toNat<256:=UInt8.toNat_lt _
   have hik:(k:Int)<s.size:=by omega
   have hT:=take_snoc s k hlt
   have HT:=hQ hT
   clear hT
   by_cases h47:s[k].toNat=47
   ·have HS:=hQ (show spSt (s.data.toList.take (k+1))=((spSt (s.data.toList.take k)).1++[(spSt (s.data.toList.take k)).2],[]) by rw[HT.out,spSt_snoc];unfold spStep;rw[if_pos h47])
    generalize spSt (s.data.toList.take k)=st at*
    obtain ⟨o,p⟩:=st
    dsimp only at hown hl HS
    unfold strV
    go_wp2_with (first
     |(at_builtin;refine wpList_append_own _ rfl _ _ 44 rfl w.heap.size 9 i0 (.string ⟨#[]⟩) 1 16 Tryz.underlying44 hi hz0 hz1 hz2 rfl (by decide) _ _ _ rfl (hown.alloc _) ⟨wr.heap.size,0,none⟩ 1 1 [strV p] rfl rfl ?_ ?_ ?_ ?_ ?_ ?_)
     |go_in)
    ·intro j u hj
     match j,hj with
     |0,hj=>simp at hj;subst hj;exact new_one _ _ _ _ rfl
    ·intro u hu;simp at hu;subst hu;rfl
    ·unfold maxLen;omega
    ·omega
    ·exact (hbw.alloc hbw.size _).size
    ·intro v' w2 hown' hgrow _
     have hb2:=(hbw.alloc hbw.size _).grown hgrow (hbw.alloc hbw.size _).size (fun j hj=>(hown.lt j hj).1)
     go_wp2
     go_roundw
     case rel=>exact ⟨k+1,by go_num,by omega,by rw[HS.out];rfl,by rw[HS.out];dsimp only;rw[strsV_snoc,List.length_append];exact hown',hb2⟩
     case measure=>simp[intOf];omega
   ·have h47':((s[k].toNat:Int)==47)=false:=by rw[beq_eq_false_iff_ne];omega
    have HS:=hQ (show spSt (s.data.toList.take (k+1))=((spSt (s.data.toList.take k)).1,(spSt (s.data.toList.take k)).2++[s[k]]) by rw[HT.out,spSt_snoc];unfold spStep;rw[if_neg h47])
    have HD:=hQ (show (s.extract k (k+1)).data.toList=[s[k]] by
     rw[cut_data,List.drop_eq_getElem_cons (by rw[len_data];exact hlt),Nat.add_sub_cancel_left];simp;rfl)
    generalize spSt (s.data.toList.take k)=st at*
    obtain ⟨o,p⟩:=st
    dsimp only at hown hl HS
    clear h47
    unfold strV
    have hpz:(⟨p.toArray⟩:ByteArray).size≤65536:=by rw[←len_data];simp;omega
    go_wp2
    go_roundw
    case rel=>exact ⟨k+1,by go_num,by omega,by
     rw[HS.out]
     show Value.string _= .string _
     congr 1
     refine str_eq ?_
     rw[ByteArray.data_append,Array.toList_append,HD.out],by rw[HS.out];exact hown,hbw⟩
    case measure=>simp[intOf];omega
  ·have hk':k=s.size:=by omega
   have hte:s.data.toList.take k=s.data.toList:=by rw[hk'];exact List.take_of_length_le (by rw[len_data];exact Nat.le_refl _)
   rw[hte] at hown hl ⊢
   have hi2:(s.size:Int)≤k:=by omega
   have HP:=hQ (show parts47 s.data.toList=(spSt s.data.toList).1++[(spSt s.data.toList).2] from rfl)
   generalize hst:spSt s.data.toList=st at hown hl HP ⊢
   obtain ⟨o,p⟩:=st
   dsimp only at hown hl HP
   unfold strV
   go_wp2_with (first
    |(at_builtin;refine wpList_append_own _ rfl _ _ 44 rfl w.heap.size 9 i0 (.string ⟨#[]⟩) 1 16 Tryz.underlying44 hi hz0 hz1 hz2 rfl (by decide) _ _ _ rfl (hown.alloc _) ⟨wr.heap.size,0,none⟩ 1 1 [strV p] rfl rfl ?_ ?_ ?_ ?_ ?_ ?_)
    |go_in)
   ·intro j u hj
    match j,hj with
    |0,hj=>simp at hj;subst hj;exact new_one _ _ _ _ rfl
   ·intro u hu;simp at hu;subst hu;rfl
   ·unfold maxLen;omega
   ·omega
   ·exact (hbw.alloc hbw.size _).size
   ·intro v' w2 hown' hgrow _
    have hb2:=(hbw.alloc hbw.size _).grown hgrow (hbw.alloc hbw.size _).size (fun j hj=>(hown.lt j hj).1)
    go_wp2
    go_ret
    exact ⟨_,rfl,by rw[HP.out,strsV_snoc,List.length_append];exact hown',hb2⟩
end Go.Proofs.YtbeccmkegckjjaaGreatDoor
end
section
namespace Go.Proofs.YtbeccmkegckjjaaGreatDoor
open Go.RowKit
set_option maxRecDepth 1000000
set_option maxHeartbeats 6400000
theorem below_two(w:World)(o1 o2:Obj):Below w.heap.size w ((w.alloc o1).alloc o2):=(below_alloc1 w o1).alloc (below_alloc1 w o1).size o2
theorem neB{a b:Int}(h:a≠b):(a != b)=true:=by rw[bne_iff_ne];exact h
theorem eqB{a b:Int}(h:a=b):(a != b)=false:=by rw[h];simp
theorem eqB'{a b:Int}(h:a=b):(a==b)=true:=by rw[h];simp
theorem neB'{a b:Int}(h:a≠b):(a==b)=false:=by rw[beq_eq_false_iff_ne];exact h
theorem strE{s:ByteArray}(h:s.size=0):(s.toList==[])=true:=by rw[empty_beq,decide_eq_true h]
theorem strN{s:ByteArray}(h:s.size≠0):(s.toList==[])=false:=by rw[empty_beq,decide_eq_false h]
def partsB(p1 d s p2 t p0 k:Bool):Bool:=(p1||(d&&s))&&((p2||t)&&(p0||k))
set_option maxHeartbeats 25600000 in
theorem p_rparts(f:NF)(ka a:Option Addr)(kl kc sl sc l:Nat)(w:World)(hsl:sl=f.streams.length):
 Calls Tryz.prog 110 #[.agg (ruleCells f (.slice ka kl kc) (.slice a sl sc) l).toArray] w fun e w'=> ∃n:Int,e= .returned (.int .i64 n)∧(n=0↔okParts f kl=true)∧Below w.heap.size w w':=by
 have HOK:=hQ (show okParts f kl=partsB (decide (f.kind=1)) (decide (f.data.size=0)) (decide (sl=0)) (decide (f.kind=2)) (decide (f.target.size=0)) (decide (f.kind=0)) (decide (kl=0)) by rw[hsl];rfl)
 clear hsl
 unfold ruleCells
 by_cases h:f.kind=1
 ·have x1:(f.kind != 1)=false:=eqB h;have x1':(f.kind==1)=true:=eqB' h
  have Dp1:=hQ (decide_eq_true h:decide (f.kind=1)=true)
  clear h
  by_cases h:f.kind=2
  ·have x2:(f.kind != 2)=false:=eqB h;have x2':(f.kind==2)=true:=eqB' h
   have Dp2:=hQ (decide_eq_true h:decide (f.kind=2)=true)
   clear h
   by_cases h:f.kind=0
   ·have x0:(f.kind != 0)=false:=eqB h;have x0':(f.kind==0)=true:=eqB' h
    have Dp0:=hQ (decide_eq_true h:decide (f.kind=0)=true)
    clear h
    have HR:=hQ (show okParts f kl=true by rw[HOK.out];simp only[partsB,Dp1.out,Dp2.out,Dp0.out,Bool.true_or,Bool.or_true,Bool.false_or,Bool.or_false,Bool.true_and,Bool.and_true,Bool.false_and,Bool.and_false])
    go_enter Tryz.func110,Tryz.ntmps110
    go_wp2
    go_ret
    exact ⟨_,rfl,by rw[HR.out];decide,below_two _ _ _⟩
   ·have x0:(f.kind != 0)=true:=neB h;have x0':(f.kind==0)=false:=neB' h
    have Dp0:=hQ (decide_eq_false h:decide (f.kind=0)=false)
    clear h
    by_cases h:kl=0
    ·have yk:(kl:Int)≤0:=by omega
     have Dk:=hQ (decide_eq_true h:decide (kl=0)=true)
     clear h
     have HR:=hQ (show okParts f kl=true by rw[HOK.out];simp only[partsB,Dp1.out,Dp2.out,Dp0.out,Dk.out,Bool.true_or,Bool.or_true,Bool.false_or,Bool.or_false,Bool.true_and,Bool.and_true,Bool.false_and,Bool.and_false])
     go_enter Tryz.func110,Tryz.ntmps110
     go_wp2
     go_ret
     exact ⟨_,rfl,by rw[HR.out];decide,below_two _ _ _⟩
    ·have yk:(0:Int)<kl:=by omega
     have Dk:=hQ (decide_eq_false h:decide (kl=0)=false)
     clear h
     have HR:=hQ (show okParts f kl=false by rw[HOK.out];simp only[partsB,Dp1.out,Dp2.out,Dp0.out,Dk.out,Bool.true_or,Bool.or_true,Bool.false_or,Bool.or_false,Bool.true_and,Bool.and_true,Bool.false_and,Bool.and_false])
     go_enter Tryz.func110,Tryz.ntmps110
     go_wp2
     go_ret
     exact ⟨_,rfl,by rw[HR.out];decide,below_two _ _ _⟩
  ·have x2:(f.kind != 2)=true:=neB h;have x2':(f.kind==2)=false:=neB' h
   have Dp2:=hQ (decide_eq_false h:decide (f.kind=2)=false)
   clear h
   by_cases h:f.target.size=0
   ·have xt:(f.target.toList==[])=true:=strE h
    have Dt:=hQ (decide_eq_true h:decide (f.target.size=0)=true)
    clear h
    by_cases h:f.kind=0
    ·have x0:(f.kind != 0)=false:=eqB h;have x0':(f.kind==0)=true:=eqB' h
     have Dp0:=hQ (decide_eq_true h:decide (f.kind=0)=true)
     clear h
     have HR:=hQ (show okParts f kl=true by rw[HOK.out];simp only[partsB,Dp1.out,Dp2.out,Dt.out,Dp0.out,Bool.true_or,Bool.or_true,Bool.false_or,Bool.or_false,Bool.true_and,Bool.and_true,Bool.false_and,Bool.and_false])
     go_enter Tryz.func110,Tryz.ntmps110
     go_wp2
     go_ret
     exact ⟨_,rfl,by rw[HR.out];decide,below_two _ _ _⟩
    ·have x0:(f.kind != 0)=true:=neB h;have x0':(f.kind==0)=false:=neB' h
     have Dp0:=hQ (decide_eq_false h:decide (f.kind=0)=false)
     clear h
     by_cases h:kl=0
     ·have yk:(kl:Int)≤0:=by omega
      have Dk:=hQ (decide_eq_true h:decide (kl=0)=true)
      clear h
      have HR:=hQ (show okParts f kl=true by rw[HOK.out];simp only[partsB,Dp1.out,Dp2.out,Dt.out,Dp0.out,Dk.out,Bool.true_or,Bool.or_true,Bool.false_or,Bool.or_false,Bool.true_and,Bool.and_true,Bool.false_and,Bool.and_false])
      go_enter Tryz.func110,Tryz.ntmps110
      go_wp2
      go_ret
      exact ⟨_,rfl,by rw[HR.out];decide,below_two _ _ _⟩
     ·have yk:(0:Int)<kl:=by omega
      have Dk:=hQ (decide_eq_false h:decide (kl=0)=false)
      clear h
      have HR:=hQ (show okParts f kl=false by rw[HOK.out];simp only[partsB,Dp1.out,Dp2.out,Dt.out,Dp0.out,Dk.out,Bool.true_or,Bool.or_true,Bool.false_or,Bool.or_false,Bool.true_and,Bool.and_true,Bool.false_and,Bool.and_false])
      go_enter Tryz.func110,Tryz.ntmps110
      go_wp2
      go_ret
      exact ⟨_,rfl,by rw[HR.out];decide,below_two _ _ _⟩
   ·have xt:(f.target.toList==[])=false:=strN h
    have Dt:=hQ (decide_eq_false h:decide (f.target.size=0)=false)
    clear h
    have HR:=hQ (show okParts f kl=false by rw[HOK.out];simp only[partsB,Dp1.out,Dp2.out,Dt.out,Bool.true_or,Bool.or_true,Bool.false_or,Bool.or_false,Bool.true_and,Bool.and_true,Bool.false_and,Bool.and_false])
    go_enter Tryz.func110,Tryz.ntmps110
    go_wp2
    go_ret
    exact ⟨_,rfl,by rw[HR.out];decide,below_two _ _ _⟩
 ·have x1:(f.kind != 1)=true:=neB h;have x1':(f.kind==1)=false:=neB' h
  have Dp1:=hQ (decide_eq_false h:decide (f.kind=1)=false)
  clear h
  by_cases h:f.data.size=0
  ·have xd:(f.data.toList==[])=true:=strE h
   have Dd:=hQ (decide_eq_true h:decide (f.data.size=0)=true)
   clear h
   by_cases h:sl=0
   ·have ys:(sl:Int)≤0:=by omega
    have Ds:=hQ (decide_eq_true h:decide (sl=0)=true)
    clear h
    by_cases h:f.kind=2
    ·have x2:(f.kind != 2)=false:=eqB h;have x2':(f.kind==2)=true:=eqB' h
     have Dp2:=hQ (decide_eq_true h:decide (f.kind=2)=true)
     clear h
     by_cases h:f.kind=0
     ·have x0:(f.kind != 0)=false:=eqB h;have x0':(f.kind==0)=true:=eqB' h
      have Dp0:=hQ (decide_eq_true h:decide (f.kind=0)=true)
      clear h
      have HR:=hQ (show okParts f kl=true by rw[HOK.out];simp only[partsB,Dp1.out,Dd.out,Ds.out,Dp2.out,Dp0.out,Bool.true_or,Bool.or_true,Bool.false_or,Bool.or_false,Bool.true_and,Bool.and_true,Bool.false_and,Bool.and_false])
      go_enter Tryz.func110,Tryz.ntmps110
      go_wp2
      go_ret
      exact ⟨_,rfl,by rw[HR.out];decide,below_two _ _ _⟩
     ·have x0:(f.kind != 0)=true:=neB h;have x0':(f.kind==0)=false:=neB' h
      have Dp0:=hQ (decide_eq_false h:decide (f.kind=0)=false)
      clear h
      by_cases h:kl=0
      ·have yk:(kl:Int)≤0:=by omega
       have Dk:=hQ (decide_eq_true h:decide (kl=0)=true)
       clear h
       have HR:=hQ (show okParts f kl=true by rw[HOK.out];simp only[partsB,Dp1.out,Dd.out,Ds.out,Dp2.out,Dp0.out,Dk.out,Bool.true_or,Bool.or_true,Bool.false_or,Bool.or_false,Bool.true_and,Bool.and_true,Bool.false_and,Bool.and_false])
       go_enter Tryz.func110,Tryz.ntmps110
       go_wp2
       go_ret
       exact ⟨_,rfl,by rw[HR.out];decide,below_two _ _ _⟩
      ·have yk:(0:Int)<kl:=by omega
       have Dk:=hQ (decide_eq_false h:decide (kl=0)=false)
       clear h
       have HR:=hQ (show okParts f kl=false by rw[HOK.out];simp only[partsB,Dp1.out,Dd.out,Ds.out,Dp2.out,Dp0.out,Dk.out,Bool.true_or,Bool.or_true,Bool.false_or,Bool.or_false,Bool.true_and,Bool.and_true,Bool.false_and,Bool.and_false])
       go_enter Tryz.func110,Tryz.ntmps110
       go_wp2
       go_ret
       exact ⟨_,rfl,by rw[HR.out];decide,below_two _ _ _⟩
    ·have x2:(f.kind != 2)=true:=neB h;have x2':(f.kind==2)=false:=neB' h
     have Dp2:=hQ (decide_eq_false h:decide (f.kind=2)=false)
     clear h
     by_cases h:f.target.size=0
     ·have xt:(f.target.toList==[])=true:=strE h
      have Dt:=hQ (decide_eq_true h:decide (f.target.size=0)=true)
      clear h
      by_cases h:f.kind=0
      ·have x0:(f.kind != 0)=false:=eqB h;have x0':(f.kind==0)=true:=eqB' h
       have Dp0:=hQ (decide_eq_true h:decide (f.kind=0)=true)
       clear h
       have HR:=hQ (show okParts f kl=true by rw[HOK.out];simp only[partsB,Dp1.out,Dd.out,Ds.out,Dp2.out,Dt.out,Dp0.out,Bool.true_or,Bool.or_true,Bool.false_or,Bool.or_false,Bool.true_and,Bool.and_true,Bool.false_and,Bool.and_false])
       go_enter Tryz.func110,Tryz.ntmps110
       go_wp2
       go_ret
       exact ⟨_,rfl,by rw[HR.out];decide,below_two _ _ _⟩
      ·have x0:(f.kind != 0)=true:=neB h;have x0':(f.kind==0)=false:=neB' h
       have Dp0:=hQ (decide_eq_false h:decide (f.kind=0)=false)
       clear h
       by_cases h:kl=0
       ·have yk:(kl:Int)≤0:=by omega
        have Dk:=hQ (decide_eq_true h:decide (kl=0)=true)
        clear h
        have HR:=hQ (show okParts f kl=true by rw[HOK.out];simp only[partsB,Dp1.out,Dd.out,Ds.out,Dp2.out,Dt.out,Dp0.out,Dk.out,Bool.true_or,Bool.or_true,Bool.false_or,Bool.or_false,Bool.true_and,Bool.and_true,Bool.false_and,Bool.and_false])
        go_enter Tryz.func110,Tryz.ntmps110
        go_wp2
        go_ret
        exact ⟨_,rfl,by rw[HR.out];decide,below_two _ _ _⟩
       ·have yk:(0:Int)<kl:=by omega
        have Dk:=hQ (decide_eq_false h:decide (kl=0)=false)
        clear h
        have HR:=hQ (show okParts f kl=false by rw[HOK.out];simp only[partsB,Dp1.out,Dd.out,Ds.out,Dp2.out,Dt.out,Dp0.out,Dk.out,Bool.true_or,Bool.or_true,Bool.false_or,Bool.or_false,Bool.true_and,Bool.and_true,Bool.false_and,Bool.and_false])
        go_enter Tryz.func110,Tryz.ntmps110
        go_wp2
        go_ret
        exact ⟨_,rfl,by rw[HR.out];decide,below_two _ _ _⟩
     ·have xt:(f.target.toList==[])=false:=strN h
      have Dt:=hQ (decide_eq_false h:decide (f.target.size=0)=false)
      clear h
      have HR:=hQ (show okParts f kl=false by rw[HOK.out];simp only[partsB,Dp1.out,Dd.out,Ds.out,Dp2.out,Dt.out,Bool.true_or,Bool.or_true,Bool.false_or,Bool.or_false,Bool.true_and,Bool.and_true,Bool.false_and,Bool.and_false])
      go_enter Tryz.func110,Tryz.ntmps110
      go_wp2
      go_ret
      exact ⟨_,rfl,by rw[HR.out];decide,below_two _ _ _⟩
   ·have ys:(0:Int)<sl:=by omega
    have Ds:=hQ (decide_eq_false h:decide (sl=0)=false)
    clear h
    have HR:=hQ (show okParts f kl=false by rw[HOK.out];simp only[partsB,Dp1.out,Dd.out,Ds.out,Bool.true_or,Bool.or_true,Bool.false_or,Bool.or_false,Bool.true_and,Bool.and_true,Bool.false_and,Bool.and_false])
    go_enter Tryz.func110,Tryz.ntmps110
    go_wp2
    go_ret
    exact ⟨_,rfl,by rw[HR.out];decide,below_two _ _ _⟩
  ·have xd:(f.data.toList==[])=false:=strN h
   have Dd:=hQ (decide_eq_false h:decide (f.data.size=0)=false)
   clear h
   have HR:=hQ (show okParts f kl=false by rw[HOK.out];simp only[partsB,Dp1.out,Dd.out,Bool.true_or,Bool.or_true,Bool.false_or,Bool.or_false,Bool.true_and,Bool.and_true,Bool.false_and,Bool.and_false])
   go_enter Tryz.func110,Tryz.ntmps110
   go_wp2
   go_ret
   exact ⟨_,rfl,by rw[HR.out];decide,below_two _ _ _⟩
def okSizes(f:NF)(l:Nat):Bool:=decide (l≤16)&&decide (f.streams.length≤4)
theorem p_rsizes(f:NF)(ka a:Option Addr)(kl kc c l B:Nat)(w:World)(hB:B≤w.heap.size)(hd:f.data.size≤262144)(hkl:kl≤64)(hsz: ∀s∈f.streams,s.2.size≤262144)
 (hrow: ∀j,(h:j<f.streams.length)→ ∃b off,a=some ⟨b,off,none⟩∧b<B∧w.cell? ⟨b,off+j*2,none⟩=some (.string f.streams[j].1)∧w.cell? ⟨b,off+j*2+1,none⟩=some (.string f.streams[j].2)):
 Calls Tryz.prog 113 #[.agg (ruleCells f (.slice ka kl kc) (.slice a f.streams.length c) l).toArray] w fun e w'=> ∃n:Int,e= .returned (.int .i64 n)∧(n=0↔okSizes f l=true)∧Below w.heap.size w w':=by
 have hd':(f.data.size:Int)≤262144:=by omega
 have hk':(kl:Int)≤64:=by omega
 have HROW:=hQ hrow
 have HSZ:=hQ hsz
 have HB2:=hQ (below_two w)
 clear hrow hsz
 by_cases h1:l≤16
 ·have h1':(l:Int)≤16:=by omega
  by_cases h2:f.streams.length≤4
  ·have h2':(f.streams.length:Int)≤4:=by omega
   have HR:=hQ (show okSizes f l=true by unfold okSizes;rw[decide_eq_true h1,decide_eq_true h2];rfl)
   have HBX:=hQ (fun o=>Box.new (ty:=25) (w.alloc o) (nfCells f (.slice ka kl kc) (.slice a f.streams.length c)))
   unfold ruleCells
   go_enter Tryz.func113,Tryz.ntmps113
   go_wp2_with fail
   go_loopw [32] (fun i wr=> ∃k:Nat,k≤f.streams.length∧i= .int .i64 k∧Below w.heap.size w wr) (fun i _=>f.streams.length-(intOf i).toNat)
   case atStart=>exact ⟨0,Nat.zero_le _,rfl,HB2.out _ _⟩
   case round=>
    obtain ⟨k,hk,rfl,hbw⟩:=hrel
    by_cases hlt:k<f.streams.length
    ·have hi:(k:Int)<f.streams.length:=by omega
     obtain ⟨b,off,rfl,hbB,hcell,hcell2⟩:=HROW.out k hlt
     have d0:=(hbw.cell (Nat.lt_of_lt_of_le hbB hB)).trans hcell
     have d1:=(hbw.cell (Nat.lt_of_lt_of_le hbB hB)).trans hcell2
     have hz:=HSZ.out f.streams[k] (List.getElem_mem hlt)
     clear hcell hcell2
     generalize f.streams[k]=st at*
     obtain ⟨s1,s2⟩:=st
     dsimp only at d0 d1 hz
     have hz':(s2.size:Int)≤262144:=by omega
     go_upto_region 7 with (first
      |(refine wpList_store_row rfl _ _ _ rfl wr.heap.size _ #[.string ⟨#[]⟩, .string ⟨#[]⟩] [.string s1, .string s2].toArray rfl rfl (heap_alloc_last _ _) 2 str_size rfl rfl (str_one _ _) ?_)
      |go_in)
     have hst2:=box_store 122 wr #[.string ⟨#[]⟩, .string ⟨#[]⟩] [.string s1, .string s2]
     generalize World.setRow _ _ _=w2 at hst2 ⊢
     obtain ⟨hbox2,hbel2⟩:=hst2
     have q1:=hbox2.cell 1 _ rfl
     go_wp2
     go_roundw
     case rel=>exact ⟨k+1,by omega,by go_num,hbw.trans (hbel2.mono hbw.size)⟩
     case measure=>simp[intOf];omega
    ·have hi:(f.streams.length:Int)≤k:=by omega
     go_wp2
     go_ret
     exact ⟨_,rfl,by rw[HR.out];decide,hbw⟩
  ·have h2':(4:Int)<f.streams.length:=by omega
   have HR:=hQ (show okSizes f l=false by unfold okSizes;rw[decide_eq_true h1,decide_eq_false h2];rfl)
   unfold ruleCells
   go_enter Tryz.func113,Tryz.ntmps113
   go_wp2
   go_ret
   exact ⟨_,rfl,by rw[HR.out];decide,HB2.out _ _⟩
 ·have h1':(16:Int)<l:=by omega
  have HR:=hQ (show okSizes f l=false by unfold okSizes;rw[decide_eq_false h1];rfl)
  unfold ruleCells
  go_enter Tryz.func113,Tryz.ntmps113
  go_wp2
  go_ret
  exact ⟨_,rfl,by rw[HR.out];decide,HB2.out _ _⟩
end Go.Proofs.YtbeccmkegckjjaaGreatDoor
end
section
namespace Go.Proofs.YtbeccmkegckjjaaGreatDoor
open Go.RowKit
set_option maxRecDepth 1000000
set_option maxHeartbeats 3200000
noncomputable def tgtPart(p:List UInt8):Bool:=decide (p=[46])||(decide (p=[46,46])||nameOK p)
def stripS(l:List UInt8):List UInt8:=if l.head? =some 47 then l.tail else l
noncomputable def tgtTo(l:List (List UInt8))(k:Nat):Bool:=(l.take k).all tgtPart
noncomputable def tgtOK(l:List UInt8):Bool:=(decide (1≤l.length)&&decide (l.length≤128))&&(decide (l=[47])||tgtTo (parts47 (stripS l)) (parts47 (stripS l)).length)
theorem tgtTo_succ(l:List (List UInt8))(k:Nat)(h:k<l.length):tgtTo l (k+1)=(tgtTo l k&&tgtPart l[k]):=by
 unfold tgtTo
 rw[List.take_succ_eq_append_getElem h,List.all_append];simp
theorem tgtTo_mono(l:List (List UInt8))(k:Nat)(hf:tgtTo l k=false):tgtTo l l.length=false:=by
 unfold tgtTo at*
 rw[Bool.eq_false_iff] at*
 intro hm
 refine hf (List.all_eq_true.2 fun x hx=>List.all_eq_true.1 hm x ?_)
 rw[List.take_length]
 exact List.mem_of_mem_take hx
theorem str_beq(s:ByteArray)(l:List UInt8):(s.toList==l)=decide (s.data.toList=l):=by
 rw[Bool.eq_iff_iff,beq_iff_eq,decide_eq_true_iff,ByteArray.toList_eq]
theorem parts47_len(l:List UInt8):1≤(parts47 l).length∧(parts47 l).length≤l.length+1:=by
 unfold parts47
 have:=(spSt_len l.length l rfl).1
 simp only[List.length_append,List.length_cons,List.length_nil];omega
theorem spSt_part_le: ∀(n:Nat) (l:List UInt8),l.length=n→ ∀p∈(spSt l).1,p.length≤n
 |0,l,h,p,hp=>by rw[List.length_eq_zero_iff.1 h] at hp;cases hp
 |n+1,l,h,p,hp=>by
  have hne:l≠[]:=fun e=>by rw[e] at h;cases h
  have e:=List.dropLast_concat_getLast hne
  have hl:l.dropLast.length=n:=by rw[List.length_dropLast,h];rfl
  have ih:=spSt_part_le n l.dropLast hl
  have ih2:=(spSt_len n l.dropLast hl).2
  rw[←e,spSt_snoc] at hp
  unfold spStep at hp
  split at hp
  ·simp only[List.mem_append,List.mem_cons,List.not_mem_nil,or_false] at hp
   rcases hp with hp|rfl
   ·have:=ih p hp;omega
   ·omega
  ·have:=ih p hp;omega
theorem parts47_part_le(l:List UInt8): ∀p∈parts47 l,p.length≤l.length:=fun p hp=>by
 unfold parts47 at hp
 simp only[List.mem_append,List.mem_cons,List.not_mem_nil,or_false] at hp
 rcases hp with hp|rfl
 ·exact spSt_part_le _ l rfl p hp
 ·exact (spSt_len _ l rfl).2
theorem r_target(s:ByteArray)(w:World)(hz:s.size≤65536):
 Calls Tryz.prog 394 #[.string s] w fun e w'=>e= .returned (.bool (tgtOK s.data.toList))∧Below w.heap.size w w':=by
 have hl:s.data.toList.length=s.size:=len_data s
 have HOK:=hQ (show tgtOK s.data.toList=((decide (1≤s.data.toList.length)&&decide (s.data.toList.length≤128))&&(decide (s.data.toList=[47])||tgtTo (parts47 (stripS s.data.toList)) (parts47 (stripS s.data.toList)).length)) from rfl)
 by_cases h1:s.size<1
 ·have h1':(s.size:Int)<1:=by omega
  have HF:=hQ (show tgtOK s.data.toList=false by rw[HOK.out,decide_eq_false (show ¬1≤s.data.toList.length by omega)];rfl)
  clear h1 hl
  go_enter Tryz.func394,Tryz.ntmps394
  go_wp2
  go_ret
  exact ⟨ret_bool' HF.out.symm,Below.refl _ _⟩
 ·have h1':(1:Int)≤s.size:=by omega
  by_cases h2:128<s.size
  ·have h2':(128:Int)<s.size:=by omega
   have HF:=hQ (show tgtOK s.data.toList=false by rw[HOK.out,decide_eq_false (show ¬s.data.toList.length≤128 by omega)];simp)
   clear h1 h2 hl
   go_enter Tryz.func394,Tryz.ntmps394
   go_wp2
   go_ret
   exact ⟨ret_bool' HF.out.symm,Below.refl _ _⟩
  ·have h2':(s.size:Int)≤128:=by omega
   have HOK2:=hQ (show tgtOK s.data.toList=(decide (s.data.toList=[47])||tgtTo (parts47 (stripS s.data.toList)) (parts47 (stripS s.data.toList)).length) by rw[HOK.out,decide_eq_true (show 1≤s.data.toList.length by omega),decide_eq_true (show s.data.toList.length≤128 by omega)];rfl)
   clear HOK
   have hs1:=str_beq s [47]
   by_cases h3:s.data.toList=[47]
   ·rw[decide_eq_true h3] at hs1
    have HF:=hQ (show tgtOK s.data.toList=true by rw[HOK2.out,decide_eq_true h3];rfl)
    clear h1 h2 hl h3
    go_enter Tryz.func394,Tryz.ntmps394
    go_wp2
    go_ret
    exact ⟨ret_bool' HF.out.symm,Below.refl _ _⟩
   ·rw[decide_eq_false h3] at hs1
    have HOK3:=hQ (show tgtOK s.data.toList=tgtTo (parts47 (stripS s.data.toList)) (parts47 (stripS s.data.toList)).length by rw[HOK2.out,decide_eq_false h3];rfl)
    clear HOK2 h3
    have hlt0:0<s.size:=by omega
    have hb0:s[0].toNat<256:=UInt8.toNat_lt _
    have hhd:s.data.toList.head? =some s[0]:=by
     rw[List.head?_eq_getElem?,List.getElem?_eq_getElem (show 0<s.data.toList.length by omega)];rfl
    have key: ∃s1:ByteArray,s1.data.toList=stripS s.data.toList∧s1.size≤128∧((s[0].toNat=47∧s1=s.extract 1 s.size)∨(s[0].toNat≠47∧s1=s)):=by
     by_cases h47:s[0].toNat=47
     ·refine ⟨s.extract 1 s.size,?_,?_, .inl ⟨h47,rfl⟩⟩
      ·unfold stripS
       rw[if_pos (by rw[hhd];congr 1;exact UInt8.toNat_inj.1 h47),cut_data,List.drop_one,List.take_of_length_le (by rw[List.length_tail];omega)]
      ·rw[←len_data,cut_data,List.length_take,List.length_drop];omega
     ·refine ⟨s,?_,by omega, .inr ⟨h47,rfl⟩⟩
      unfold stripS
      rw[if_neg (by rw[hhd];intro e;injection e with e;exact h47 (by rw[e];rfl))]
    obtain ⟨s1,hs1d,hz1,hcase⟩:=key
    have HSP:=hQ (fun W:World=>r_split s1 W (by omega))
    rw[hs1d] at HSP
    have HP1:=hQ (parts47_len (stripS s.data.toList))
    have hsl9:(stripS s.data.toList).length≤128:=by rw[←hs1d,len_data];exact hz1
    have hpl9:(parts47 (stripS s.data.toList)).length≤129:=by have:=HP1.out.2;omega
    have HP2:=hQ (fun p hp=>Nat.le_trans (parts47_part_le (stripS s.data.toList) p hp) (by rw[←hs1d,len_data];exact hz1))
    have HN:=hQ (fun (x:ByteArray) (W:World) (h:x.size≤65536)=>r_name x W h)
    clear hs1d hhd hl
    generalize parts47 (stripS s.data.toList)=ps at*
    generalize tgtOK s.data.toList=res at*
    rcases hcase with ⟨h47,rfl⟩|⟨h47,rfl⟩
    rotate_left
    have h47':((s1[0].toNat:Int)==47)=false:=by rw[beq_eq_false_iff_ne];omega
    rotate_right
    all_goals
     go_enter Tryz.func394,Tryz.ntmps394
     go_wp2_with fail
     refine (HSP.out _).mono ?_
     rintro e w1 ⟨v,rfl,hown,hb1⟩
     obtain ⟨g,cap,rfl,hg1,hg2⟩:=hown.form HP1.out.1
     have HC:=hQ (fun k (hk:k<ps.length)=>show w1.cell? ⟨g,k,none⟩=some (strV ps[k]) by
      rw[hown.cellAt k (by omega),strsV,List.getElem?_map,List.getElem?_eq_getElem hk];rfl)
     clear hown
     go_wp2_with fail
     go_loopw [4] (fun i wr=> ∃k:Nat,k≤ps.length∧i= .int .i64 k∧Below w1.heap.size w1 wr∧tgtTo ps k=true) (fun i _=>ps.length-(intOf i).toNat)
     case atStart=>exact ⟨0,Nat.zero_le _,rfl,Below.refl _ _,rfl⟩
     case round=>
      obtain ⟨k,hk,rfl,hbw,htk⟩:=hrel
      have hpl:=HP1.out.2
      by_cases hlt:k<ps.length
      ·have hi:(k:Int)<ps.length:=by omega
       have hck:=(hbw.cell hg2).trans (HC.out k hlt)
       have hpz:=HP2.out ps[k] (List.getElem_mem hlt)
       have HT1:=hQ (tgtTo_succ ps k hlt)
       rw[htk,Bool.true_and] at HT1
       have HM:=hQ (tgtTo_mono ps (k+1))
       generalize ps[k]=p at*
       have HT2:=hQ (show tgtPart p=(decide (p=[46])||(decide (p=[46,46])||nameOK p)) from rfl)
       unfold strV at hck
       obtain ⟨q,hq⟩: ∃q:ByteArray,q=⟨p.toArray⟩:=⟨_,rfl⟩
       have hqd:q.data.toList=p:=by rw[hq]
       have hqz:q.size≤65536:=by rw[←len_data,hqd];omega
       rw[←hq] at hck
       have b1:=str_beq q [46]
       have b2:=str_beq q [46,46]
       rw[hqd] at b1 b2
       have HNQ:=hQ (fun W:World=>HN.out q W hqz)
       rw[hqd] at HNQ
       clear hq hqd
       generalize decide (p=[46])=x1 at*
       generalize decide (p=[46,46])=x2 at*
       generalize nameOK p=x3 at*
       rw[HT2.out] at HT1
       clear HT2
       cases x1
       ·cases x2
        ·go_wp2_with fail
         refine (HNQ.out _).mono ?_
         rintro e w2 ⟨rfl,hb2⟩
         cases x3
         ·have HF:=hQ (HOK3.out.trans (HM.out HT1.out))
          go_wp2
          go_ret
          exact ⟨ret_bool' HF.out.symm,hb1.trans ((hbw.trans (hb2.mono hbw.size)).mono hb1.size)⟩
         ·go_wp2
          go_roundw
          case rel=>exact ⟨k+1,by omega,by go_num,hbw.trans (hb2.mono hbw.size),HT1.out⟩
          case measure=>simp[intOf];omega
        ·go_wp2
         go_roundw
         case rel=>exact ⟨k+1,by omega,by go_num,hbw,HT1.out⟩
         case measure=>simp[intOf];omega
       ·go_wp2
        go_roundw
        case rel=>exact ⟨k+1,by omega,by go_num,hbw,HT1.out⟩
        case measure=>simp[intOf];omega
      ·have hi:(ps.length:Int)≤k:=by omega
       have HF:=hQ (show res=true by rw[HOK3.out,show ps.length=k by omega,htk])
       go_wp2
       go_ret
       exact ⟨ret_bool' HF.out.symm,hb1.trans (hbw.mono hb1.size)⟩
end Go.Proofs.YtbeccmkegckjjaaGreatDoor
end
