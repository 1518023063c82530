/- Law 43, UdfbuildSizes: a part of the proof. -/
import Derived.Test.YtbeccmkegckjjaaGreatDoorQ13
set_option linter.unusedVariables false
set_option linter.ambiguousOpen false
set_option linter.unusedSimpArgs false
section
namespace Go.Proofs.YtbeccmkegckjjaaGreatDoor
open Go.RowKit
set_option maxRecDepth 1000000
set_option maxHeartbeats 3200000
theorem ltB_less{a b:List UInt8}:ltB a b=Op.bytesLess a b:=(less_lt a b).symm
theorem less_trans: ∀ {a b c:List UInt8},Op.bytesLess a b=true→Op.bytesLess b c=true→Op.bytesLess a c=true
 |_,[],_,h,_=>by cases ‹List UInt8› <;> simp[Op.bytesLess] at h
 |_,_::_,[],_,h=>by simp[Op.bytesLess] at h
 |[],_::_,_::_,_,_=>by simp[Op.bytesLess]
 |x::a,y::b,z::c,h1,h2=>by
  simp only[Op.bytesLess,Bool.or_eq_true,Bool.and_eq_true,decide_eq_true_eq,beq_iff_eq] at h1 h2 ⊢
  rcases h1 with h1|⟨rfl,h1⟩
  ·rcases h2 with h2|⟨rfl,h2⟩
   ·exact .inl (UInt8.lt_trans h1 h2)
   ·exact .inl h1
  ·rcases h2 with h2|⟨rfl,h2⟩
   ·exact .inl h2
   ·exact .inr ⟨rfl,less_trans h1 h2⟩
theorem ltB_trans{a b c:List UInt8}(h1:ltB a b=true)(h2:ltB b c=true):ltB a c=true:=by
 rw[ltB_less] at*
 exact less_trans h1 h2
theorem sortedTo_lt(l:List ByteArray)(h:sortedTo l l.length=true): ∀(d i:Nat) (hj:i+d+1<l.length),ltB (l[i]'(by omega)).data.toList l[i+d+1].data.toList=true
 |0,i,hj=>sortedTo_adj l i h hj
 |d+1,i,hj=>ltB_trans (sortedTo_lt l h d i (by omega)) (sortedTo_adj l (i+d+1) h (by omega))
theorem sorted_ne(l:List ByteArray)(h:sortedTo l l.length=true)(i j:Nat)(hij:i<j)(hj:j<l.length):(l[j].toList==(l[i]'(by omega)).toList)=false:=by
 have h1:=sortedTo_lt l h (j-i-1) i (by omega)
 have e:i+(j-i-1)+1=j:=by omega
 have h2:ltB (l[i]'(by omega)).data.toList l[j].data.toList=true:=by
  have: ∀k (hk:k<l.length),k=j→l[k]=l[j]:=fun k hk e=>by subst e;rfl
  rw[←this _ (by omega) e];exact h1
 rw[eq_str,decide_eq_false_iff_not]
 intro e2
 rw[e2,less_irr] at h2
 cases h2
def outL(names:List ByteArray)(n k:Nat):List Value:=(names.take k).map Value.string++List.replicate (n-k) (.string ⟨#[]⟩)
theorem outL_zero(names:List ByteArray)(n:Nat):outL names n 0=List.replicate n (.string ⟨#[]⟩):=by simp[outL]
theorem outL_full(names:List ByteArray):outL names names.length names.length=names.map Value.string:=by simp[outL]
theorem outL_len(names:List ByteArray)(k:Nat)(hk:k≤names.length):(outL names names.length k).length=names.length:=by simp[outL];omega
theorem outL_set(names:List ByteArray)(k:Nat)(hk:k<names.length):(outL names names.length k).set k (.string names[k])=outL names names.length (k+1):=by
 unfold outL
 obtain ⟨d,hd⟩: ∃d,names.length-k=d+1:=⟨names.length-k-1,by omega⟩
 have hd2:names.length-(k+1)=d:=by omega
 have hl:((names.take k).map Value.string).length=k:=by simp;omega
 rw[hd,hd2,List.replicate_succ,List.set_append_right _ _ (by rw[hl];omega),hl,Nat.sub_self,List.set_cons_zero,List.take_succ_eq_append_getElem hk,List.map_append,List.append_assoc]
 rfl
theorem madeStr(n:Nat):(madeCells (Value.string ⟨#[]⟩).cells (n*1)).toList=List.replicate n (.string ⟨#[]⟩):=by
 rw[Nat.mul_one];exact toList_madeCells_one _ _
theorem r_names19(n:Nat)(kids:List (NT n))(ka:Option Addr)(kc B:Nat)(w:World)(hB:B≤w.heap.size)(hl:kids.length≤64)(hs:sortedTo (kidNames n kids) kids.length=true)
 (hv: ∀j,(h:j<kids.length)→nameOK (ntF n kids[j]).name.data.toList=true∧(ntF n kids[j]).name.size≤65536)
 (hk: ∀j,(h:j<kids.length)→ ∃b off cs,ka=some ⟨b,off,none⟩∧b<B∧NodeV w (· < B) n kids[j] cs∧ ∀i x,cs[i]? =some x→w.cell? ⟨b,off+j*12+i,none⟩=some x):
 Calls Tryz.prog 220 #[.int .i64 3, .slice ka kids.length kc] w fun e w'=> ∃g:Nat,e= .returned (.tuple #[.slice (some ⟨g,0,none⟩) kids.length kids.length, .int .i64 0])∧
  w'.ownsRow w.heap.size 9 1 (.slice (some ⟨g,0,none⟩) kids.length kids.length) kids.length ((kidNames n kids).map Value.string)∧Below w.heap.size w w':=by
 obtain ⟨i0,hi,hz0,hz1,hz2⟩:=info_parts info_str
 have hnl:=kidNames_len n kids
 have HE:=hQ (fun W:World=>r_exists W)
 have HN:=hQ (fun (x:ByteArray) (W:World) (h:x.size≤65536)=>r_name x W h)
 have HROW:=hQ (show ∀j,(h:j<kids.length)→ ∃b off ka' kl' kc' a' sl' sc',ka=some ⟨b,off,none⟩∧b<B∧ ∀i x,(nfCells (ntF n kids[j]) (.slice ka' kl' kc') (.slice a' sl' sc'))[i]? =some x→w.cell? ⟨b,off+j*12+i,none⟩=some x from fun j hj=>by
  obtain ⟨b,off,cs,e1,e2,e3,e4⟩:=hk j hj
  obtain ⟨a',a2',l',c',l2',c2',rfl⟩:=e3.cellsF
  exact ⟨b,off,a',l',c',a2',l2',c2',e1,e2,e4⟩)
 have HORD:=hQ (fun (W:World) (hW:Below w.heap.size w W)=>r_order ka kc B (kidNames n kids) W (Nat.le_trans hB hW.size) (by omega) (by rw[hnl];exact hs) (fun j hj=>by
  obtain ⟨b,off,cs,e1,e2,e3,e4⟩:=hk j (by omega)
  obtain ⟨_,_,_,_,_,_,rfl⟩:=e3.cellsF
  refine ⟨b,off,e1,e2,(hW.cell (Nat.lt_of_lt_of_le e2 hB)).trans ?_⟩
  rw[show (kidNames n kids)[j]=(ntF n (kids[j]'(by omega))).name by simp[kidNames]]
  exact e4 0 _ rfl))
 rw[hnl] at HORD
 have HNE:=hQ (fun i j (hij:i<j) (hj:j<kids.length)=>show ((ntF n kids[j]).name.toList==(ntF n (kids[i]'(by omega))).name.toList)=false by
  have h:=sorted_ne (kidNames n kids) (by rw[hnl];exact hs) i j hij (by omega)
  simpa[kidNames] using h)
 have HV:=hQ hv
 have hkn: ∀j (h:j<kids.length),(kidNames n kids)[j]'(by omega)=(ntF n kids[j]).name:=fun j h=>by simp[kidNames]
 have HKN:=hQ hkn
 have hlen:(kids.length:Int)≤64:=by omega
 have HNL:=hQ hnl
 clear hk hs hv hkn
 go_enter Tryz.func220,Tryz.ntmps220
 go_wp2_with fail
 refine (HE.out _).mono ?_
 rintro e w ⟨rfl,rfl⟩
 go_wp2_with fail
 go_loopw [6] (fun i wr=> ∃k:Nat,k≤kids.length∧i= .int .i64 k∧Below w.heap.size w wr) (fun i _=>kids.length-(intOf i).toNat)
 case atStart=>exact ⟨0,Nat.zero_le _,rfl,Below.refl _ _⟩
 case round=>
  obtain ⟨k,hk,rfl,hbw⟩:=hrel
  by_cases hlt:k<kids.length
  ·have hi1:(k:Int)<kids.length:=by omega
   obtain ⟨b,off,_,_,_,_,_,_,rfl,hbB,hc⟩:=HROW.out k hlt
   have hbb:b<w.heap.size:=Nat.lt_of_lt_of_le hbB hB
   have d0:=(hbw.cell hbb).trans (hc 0 _ rfl)
   rw[Nat.add_zero] at d0
   obtain ⟨v1,v2⟩:=HV.out k hlt
   clear hc
   generalize (ntF n kids[k]).name=nm at*
   go_wp2_with fail
   refine (HN.out nm _ v2).mono ?_
   rintro e w1 ⟨rfl,hb1⟩
   rw[v1]
   go_wp2
   go_roundw
   case rel=>exact ⟨k+1,by omega,by go_num,hbw.trans (hb1.mono hbw.size)⟩
   case measure=>simp[intOf];omega
  ·have hi1:(kids.length:Int)≤k:=by omega
   have HBW:=hQ hbw
   go_wp2_with fail
   clear hlt hk hi1 hbw
   go_loopw [7,8] (fun i _ wr2=> ∃k:Nat,k≤kids.length∧i= .int .i64 k∧Below w.heap.size w wr2) (fun i _ _=>kids.length-(intOf i).toNat)
   case atStart=>exact ⟨0,Nat.zero_le _,rfl,HBW.out⟩
   case round=>
    rename_i wr0 wr hrel
    obtain ⟨k,hk,rfl,hbw⟩:=hrel
    clear HBW
    by_cases hlt:k<kids.length
    ·have hi1:(k:Int)<kids.length:=by omega
     have HBW:=hQ hbw
     clear hbw
     go_wp2_with fail
     go_loopw [8] (fun i wr2=> ∃k2:Nat,k2≤k∧i= .int .i64 k2∧Below w.heap.size w wr2) (fun i _=>k-(intOf i).toNat)
     case atStart=>exact ⟨0,Nat.zero_le _,rfl,HBW.out⟩
     case round=>
      rename_i wr1 wr hrel
      obtain ⟨k2,hk2,rfl,hbw⟩:=hrel
      clear HBW
      by_cases hlt2:k2<k
      ·have hi2:(k2:Int)<k:=by omega
       have hi3:(k2:Int)<kids.length:=by omega
       obtain ⟨b,off,_,_,_,_,_,_,rfl,hbB,hc⟩:=HROW.out k hlt
       obtain ⟨b2,off2,_,_,_,_,_,_,hh,hbB2,hc2⟩:=HROW.out k2 (by omega)
       injection hh with hh
       injection hh with hh1 hh2
       subst hh1 hh2
       have hbb:b<w.heap.size:=Nat.lt_of_lt_of_le hbB hB
       have d0:=(hbw.cell hbb).trans (hc 0 _ rfl)
       have d1:=(hbw.cell hbb).trans (hc2 0 _ rfl)
       rw[Nat.add_zero] at d0 d1
       have hne:=HNE.out k2 k hlt2 hlt
       clear hc hc2
       generalize (ntF n kids[k]).name=nm at*
       generalize (ntF n kids[k2]).name=nm2 at*
       go_wp2_with fail
       go_quiet (fail)
       go_wp2
       go_roundw
       case rel=>exact ⟨k2+1,by omega,by go_num,below_drewN hbw _⟩
       case measure=>simp[intOf];omega
      ·have hi2:(k:Int)≤k2:=by omega
       go_wp2
       go_roundw
       case rel=>exact ⟨k+1,by omega,by go_num,hbw⟩
       case measure=>simp[intOf];omega
    ·have hi1:(kids.length:Int)≤k:=by omega
     have HBW:=hQ hbw
     clear HNE HN HV HE
     go_wp2_with (first
      |(at_make;refine wpList_make_full _ rfl _ _ 44 rfl w.heap.size 9 i0 (.string ⟨#[]⟩) 1 Tryz.underlying44 hi hz0 hz1 .i64 .i64 _ _ kids.length rfl rfl rfl rfl (by rw[hz2];omega) (by unfold maxLen;omega) hbw.size ?_;intro w3 hown3 hgrow3)
      |fail)
     have hb3:Below w.heap.size w w3:=hbw.grown hgrow3 hbw.size (fun j hj=>by cases hj)
     have hb4:=hb3.alloc hb3.size (.cells #[] 9)
     refine (HORD.out _ hb4).mono ?_
     rintro e w5 ⟨gl,capl,rfl,hownl,hb5⟩
     rw[madeStr] at hown3
     have hs3:wr.heap.size<w3.heap.size:=(own_cap hown3).2
     have hs4:(w3.alloc (.cells #[] 9)).heap.size=w3.heap.size+1:=alloc_size _ _
     have hown5:=own_below' (hown3.alloc (.cells #[] 9)) hb5
     have hgiv5:=own_below' (World.ownsRow_made (e:=9) (size:=1) w3 #[] 0 hb3.size (Nat.zero_le _) rfl) hb5
     have hgl:=hownl.lt gl rfl
     have hl5:w5.ownsRow w.heap.size 3 1 (.slice (some ⟨gl,0,none⟩) kids.length capl) kids.length (intsV (List.range kids.length)):=⟨hownl.1,hownl.2.imp id fun ⟨g',c',cur,e1,e2,e3⟩=>⟨g',c',cur,e1,Nat.le_trans hb4.size e2,e3⟩⟩
     have hb6:=hb4.trans (hb5.mono hb4.size)
     rw[hs4] at hgl
     generalize hgO:wr.heap.size=gO at*
     have HNE1:gl≠gO:=by omega
     have HNE2:w3.heap.size≠gO:=by omega
     have HNE3:w3.heap.size≠gl:=by omega
     have HI:=hQ (show ∃k:Nat,k≤kids.length∧Value.int .i64 0= .int .i64 k∧w5.ownsRow w.heap.size 9 1 (.slice (some ⟨w3.heap.size,0,none⟩) 0 0) k (((kidNames n kids).take k).map Value.string)∧(Value.slice (some ⟨w3.heap.size,0,none⟩) 0 0).ownBlock≠some gO∧(Value.slice (some ⟨w3.heap.size,0,none⟩) 0 0).ownBlock≠some gl∧
      w5.ownsRow w.heap.size 9 1 (.slice (some ⟨gO,0,none⟩) kids.length kids.length) kids.length (outL (kidNames n kids) kids.length k)∧w5.ownsRow w.heap.size 3 1 (.slice (some ⟨gl,0,none⟩) kids.length capl) kids.length (intsV (List.range kids.length))∧Below w.heap.size w w5 from
      ⟨0,Nat.zero_le _,rfl,hgiv5,fun h=>HNE2 (by injection h),fun h=>HNE3 (by injection h),by rw[outL_zero];exact hown5,hl5,hb6⟩)
     clear hown3 hgrow3 hb3 hb4 hownl hb5 hown5 hgiv5 hl5 hb6 hs3 hs4 hgl HNE2 HNE3 HORD HBW hbw hgO
     go_wp2_with fail
     go_loopw [10,12] (fun gv i wr=> ∃k:Nat,k≤kids.length∧i= .int .i64 k∧wr.ownsRow w.heap.size 9 1 gv k (((kidNames n kids).take k).map Value.string)∧gv.ownBlock≠some gO∧gv.ownBlock≠some gl∧
      wr.ownsRow w.heap.size 9 1 (.slice (some ⟨gO,0,none⟩) kids.length kids.length) kids.length (outL (kidNames n kids) kids.length k)∧wr.ownsRow w.heap.size 3 1 (.slice (some ⟨gl,0,none⟩) kids.length capl) kids.length (intsV (List.range kids.length))∧Below w.heap.size w wr) (fun _ i _=>kids.length-(intOf i).toNat)
     case atStart=>exact HI.out
     case round=>as_aux_lemma=>
      obtain ⟨k,hk,rfl,hgv,hg1,hg2,ho,hln,hbw⟩:=hrel
      clear HI
      by_cases hlt:k<kids.length
      ·have hi1:(k:Int)<kids.length:=by omega
       obtain ⟨b,off,ka',kl',kc',a',sl',sc',rfl,hbB,hc⟩:=HROW.out k hlt
       have hcell': ∀j x,(nfCells (ntF n kids[k]) (.slice ka' kl' kc') (.slice a' sl' sc'))[j]? =some x→wr.cell? ⟨b,off+k*12+j,none⟩=some x:=fun j x hx=>(hbw.cell (Nat.lt_of_lt_of_le hbB hB)).trans (hc j x hx)
       have cl:=hln.cellAt k (by omega)
       rw[intsV,List.getElem?_map,List.getElem?_range hlt] at cl
       have HGV:=hQ hgv
       have HO:=hQ ho
       have HLN:=hQ hln
       have HNM:=hQ (HKN.out k hlt)
       clear hc hgv ho hln
       have hsz1:=(own_cap HLN.out).2
       have hsz2:=(own_cap HO.out).2
       generalize ntF n kids[k]=f' at*
       go_upto_region 25 with (first
        |(refine wpList_load_at rfl _ _ rfl b (off+k*12) (nfCells f' (.slice ka' kl' kc') (.slice a' sl' sc')) _ rfl hcell' Tryz.underlying25 rfl node_size ?_)
        |(refine wpList_store_row rfl _ _ _ rfl wr.heap.size _ nodeZ (nfCells f' (.slice ka' kl' kc') (.slice a' sl' sc')).toArray rfl rfl (heap_alloc_last _ _) 12 node_size rfl rfl (node_one _ _ _ _ _ _ _) ?_)
        |go_in)
       have hst2:=box_store 25 wr nodeZ (nfCells f' (.slice ka' kl' kc') (.slice a' sl' sc'))
       unfold nodeZ at hst2
       generalize World.setRow _ _ _=w2 at hst2 ⊢
       obtain ⟨hbox2,hbel2⟩:=hst2
       have q0:=hbox2.cell 0 _ rfl
       have q1:=hbox2.cell 1 _ rfl
       have hgv2:=own_below' HGV.out hbel2
       have ho2:=own_below' HO.out hbel2
       have hln2:=own_below' HLN.out hbel2
       have hbw2:=hbw.trans (hbel2.mono hbw.size)
       have hsz1:=(own_cap hln2).2
       have hsz2:=(own_cap ho2).2
       clear hcell' hbel2 hbox2 HGV HO HLN hbw cl
       go_upto_region 33 with (first
        |(at_builtin;refine wpList_append_lies _ rfl _ _ 44 rfl w.heap.size 9 i0 (.string ⟨#[]⟩) 1 16 Tryz.underlying44 hi hz0 hz1 hz2 rfl (by decide) _ k _ rfl (hgv2.alloc _) ⟨w2.heap.size,0,none⟩ 1 1 [.string f'.name] rfl rfl ?_ ?_ ?_ ?_ ?_ ?_ (w2.heap.size+1) ?_ ?_)
        |fail)
       ·intro j u hj
        match j,hj with
        |0,hj=>simp at hj;subst hj;exact new_one _ _ _ _ rfl
       ·intro u hu;simp at hu;subst hu;rfl
       ·omega
       ·unfold maxLen;omega
       ·omega
       ·exact (hbw2.alloc hbw2.size _).size
       ·exact alloc_size _ _
       intro gn capn w4 hown4 hgrow4 hat hlt4
       have hbA:=(hbw2.alloc hbw2.size (.cells #[.string f'.name] 9))
       have hb4:=hbA.grown hgrow4 hbA.size (fun j hj=>((hgv2.alloc (.cells #[.string f'.name] 9)).lt j hj).1)
       have ho4:=(ho2.alloc (.cells #[.string f'.name] 9)).kept hgrow4 (.inr fun e=>hg1 e.symm)
       have hln4:=(hln2.alloc (.cells #[.string f'.name] 9)).kept hgrow4 (.inr fun e=>hg2 e.symm)
       have cl:=hln4.cellAt k (by omega)
       rw[intsV,List.getElem?_map,List.getElem?_range hlt] at cl
       have co:=ho4.cellAt k (by omega)
       have hol:(outL (kidNames n kids) kids.length k).length=kids.length:=by have h:=outL_len (kidNames n kids) k (by omega);rw[hnl] at h;exact h
       rw[List.getElem?_eq_getElem (by omega)] at co
       have fo:=ho4.frozenAt k
       have hst4:=ho4.stored k (.string f'.name)
       have hl5:=hln4.kept hst4.2 (.inr fun e=>HNE1 (by injection e))
       have hgn1:gn≠gO:=fun e=>by
        rcases hat with h|h
        ·exact hg1 (by rw[h,e])
        ·omega
       have hgn2:gn≠gl:=fun e=>by
        rcases hat with h|h
        ·exact hg2 (by rw[h,e])
        ·omega
       have hv5:=hown4.kept hst4.2 (.inr fun e=>hgn1 (by injection e))
       have hb5:=hb4.grown hst4.2 hb4.size (fun j hj=>by injection hj with hj;have:=((ho4.lt gO rfl).1);omega)
       have HST:=hQ hst4.1
       have HV5:=hQ hv5
       have HL5:=hQ hl5
       clear hst4 hv5 hl5 ho4 hln4 hown4 hgrow4 hb4 hbA hgv2 ho2 hln2
       go_wp2_with fail
       generalize w4.setCell _ _=w6 at*
       go_wp2
       go_roundw
       case rel=>
        refine ⟨k+1,by omega,by go_num,?_,fun e=>hgn1 (by injection e),fun e=>hgn2 (by injection e),?_,HL5.out,hb5⟩
        ·rw[List.take_succ_eq_append_getElem (show k<(kidNames n kids).length by omega),List.map_append,HNM.out];simpa only[List.map_take,List.map_cons,List.map_nil] using HV5.out
        ·have h:=outL_set (kidNames n kids) k (by omega)
         rw[HNM.out,hnl] at h
         rw[←h];exact HST.out
       case measure=>simp[intOf];omega
      ·have hi1:(kids.length:Int)≤k:=by omega
       have hk':k=kids.length:=by omega
       go_wp2
       go_ret2
       refine ⟨gO,rfl,?_,hbw⟩
       have h:=outL_full (kidNames n kids)
       rw[hnl] at h
       rw[←h, ←hk']
       rw[hk'] at ho ⊢
       exact ho
end Go.Proofs.YtbeccmkegckjjaaGreatDoor
end
section
namespace Go.Proofs.YtbeccmkegckjjaaGreatDoor
open Go.RowKit
set_option maxRecDepth 1000000
set_option maxHeartbeats 3200000
def shownF(f:NF):Bool:=decide (f.hidden / 8 % 2=0)
def viewF(f:NF):NF:= {f with weight:=0,hidden:=0}
def ntView:(n:Nat)→NT n→NT n
 |0,t=>t
 |n+1,t=>(viewF t.1,(t.2.filter fun k=>shownF (ntF n k)).map (ntView n))
theorem flat_get{α:Type}(m:Nat): ∀(cs:List (List α)),(∀c∈cs,c.length=m)→ ∀(j:Nat) (u:α),cs.flatten[j]? =some u→ ∃k i, ∃h:k<cs.length,i<m∧j=k*m+i∧cs[k][i]? =some u
 |[],_,j,u,h=>by simp at h
 |c::cs,hm,j,u,h=>by
  have hc:c.length=m:=hm c (by simp)
  rw[List.flatten_cons] at h
  by_cases hj:j<m
  ·rw[List.getElem?_append_left (by omega)] at h
   exact ⟨0,j,by simp,hj,by omega,h⟩
  ·rw[List.getElem?_append_right (by omega),hc] at h
   obtain ⟨k,i,hk,hi,e,hu⟩:=flat_get m cs (fun c h=>hm c (by simp[h])) (j-m) u h
   refine ⟨k+1,i,by simpa using hk,hi,?_,by simpa using hu⟩
   rw[Nat.add_mul];omega
theorem flat_at{α:Type}(m:Nat): ∀(cs:List (List α)),(∀c∈cs,c.length=m)→ ∀(k i:Nat) (hk:k<cs.length),i<m→cs.flatten[k*m+i]? =cs[k][i]?
 |[],_,_,_,hk,_=>by simp at hk
 |c::cs,hm,k,i,hk,hi=>by
  have hc:c.length=m:=hm c (by simp)
  rw[List.flatten_cons]
  cases k with
  |zero=>rw[Nat.zero_mul,Nat.zero_add,List.getElem?_append_left (by omega)];rfl
  |succ k=>
   have e:(k+1)*m+i=m+(k*m+i):=by rw[Nat.add_mul];omega
   rw[e,List.getElem?_append_right (by omega),hc,Nat.add_sub_cancel_left,flat_at m cs (fun c h=>hm c (by simp[h])) k i (by simpa using hk) hi]
   rfl
theorem flat_len{α:Type}(m:Nat): ∀(cs:List (List α)),(∀c∈cs,c.length=m)→cs.flatten.length=cs.length*m
 |[],_=>by simp
 |c::cs,hm=>by
  rw[List.flatten_cons,List.length_append,flat_len m cs (fun c h=>hm c (by simp[h])),hm c (by simp),List.length_cons,Nat.add_mul];omega
def Fr(base:Nat)(w:World)(b:Nat):Prop:=base≤b∧b<w.heap.size
theorem NodeV.fr_step{w w':World}{base:Nat}(hb:Below w.heap.size w w'){n:Nat}{t:NT n}{vs:List Value}(h:NodeV w (Fr base w) n t vs):NodeV w' (Fr base w') n t vs:=
 h.frame fun b hp=>⟨⟨hp.1,Nat.lt_of_lt_of_le hp.2 hb.size⟩,fun _=>hb.cell hp.2⟩
theorem RowV.fr_step{w w':World}{base:Nat}(hb:Below w.heap.size w w'){v:Value}{m:Nat}{cs:List (List Value)}(h:RowV w (Fr base w) v m cs):RowV w' (Fr base w') v m cs:=
 h.frame fun b hp=>⟨⟨hp.1,Nat.lt_of_lt_of_le hp.2 hb.size⟩,fun _=>hb.cell hp.2⟩
theorem Kp.cell{C:Nat→Prop}{w w':World}(hk:Kp C w w'){b:Nat}(hlt:b<w.heap.size)(hn: ¬C b)(o:Nat):w'.cell? ⟨b,o,none⟩=w.cell? ⟨b,o,none⟩:=World.cell?_of_block (hk.block b hlt hn)
theorem NodeV.fr_kp{C:Nat→Prop}{w w':World}{base:Nat}(hk:Kp C w w')(hC: ∀b,C b→b<base){n:Nat}{t:NT n}{vs:List Value}(h:NodeV w (Fr base w) n t vs):NodeV w' (Fr base w') n t vs:=
 h.frame fun b hp=>⟨⟨hp.1,Nat.lt_of_lt_of_le hp.2 hk.size⟩,fun o=>hk.cell hp.2 (fun hc=>by have:=hC b hc;have:=hp.1;omega) o⟩
theorem RowV.fr_kp{C:Nat→Prop}{w w':World}{base:Nat}(hk:Kp C w w')(hC: ∀b,C b→b<base){v:Value}{m:Nat}{cs:List (List Value)}(h:RowV w (Fr base w) v m cs):RowV w' (Fr base w') v m cs:=
 h.frame fun b hp=>⟨⟨hp.1,Nat.lt_of_lt_of_le hp.2 hk.size⟩,fun o=>hk.cell hp.2 (fun hc=>by have:=hC b hc;have:=hp.1;omega) o⟩
theorem NodeV.fr_base{w:World}{base base':Nat}(hb:base'≤base){n:Nat}{t:NT n}{vs:List Value}(h:NodeV w (Fr base w) n t vs):NodeV w (Fr base' w) n t vs:=h.frame fun b hp=>⟨⟨Nat.le_trans hb hp.1,hp.2⟩,fun _=>rfl⟩
theorem RowV.fr_base{w:World}{base base':Nat}(hb:base'≤base){v:Value}{m:Nat}{cs:List (List Value)}(h:RowV w (Fr base w) v m cs):RowV w (Fr base' w) v m cs:=h.frame fun b hp=>⟨⟨Nat.le_trans hb hp.1,hp.2⟩,fun _=>rfl⟩
theorem NodeV.fr_lt{w:World}{base:Nat}{n:Nat}{t:NT n}{vs:List Value}(h:NodeV w (Fr base w) n t vs):NodeV w (· < w.heap.size) n t vs:=h.frame fun b hp=>⟨hp.2,fun _=>rfl⟩
theorem RowV.of_own{w:World}{base:Nat}{e:TypeId}{m:Nat}{v:Value}{n:Nat}{cs:List (List Value)}(hm: ∀c∈cs,c.length=m)(hn:n=cs.length)(h:w.ownsRow base e m v n cs.flatten):RowV w (Fr base w) v m cs:=by
 subst hn
 rcases h.2 with ⟨rfl,h0⟩|⟨g,cap,cur,rfl,hb,hg,hc1,hc2,hc3,ht⟩
 ·have:cs=[]:=List.length_eq_zero_iff.1 h0
  subst this
  exact ⟨none,0,rfl,fun k hk=>by simp at hk⟩
 ·refine ⟨some ⟨g,0,none⟩,cap,rfl,fun k hk=>⟨g,0,rfl,⟨hb,(Array.getElem?_eq_some_iff.1 hg).1⟩,fun j x hx=>?_⟩⟩
  have hj:j<m:=by
   have:=(List.getElem?_eq_some_iff.1 hx).1
   rw[hm _ (List.getElem_mem hk)] at this
   exact this
  have hlt:k*m+j<cs.length*m:=by
   have:(k+1)*m≤cs.length*m:=Nat.mul_le_mul_right _ hk
   rw[Nat.add_mul] at this;omega
  have h1:=h.cellAt (k*m+j) hlt
  rw[flat_at m cs hm k j hk hj,hx] at h1
  rw[Nat.zero_add];exact h1
theorem strCells_two(l:List (ByteArray × ByteArray)): ∀c∈strCells l,c.length=2:=fun c hc=>by
 obtain ⟨s,_,rfl⟩:=List.mem_map.1 hc;rfl
theorem strCells_cell(l:List (ByteArray × ByteArray)): ∀u∈(strCells l).flatten,u.oneCell'=true:=fun u hu=>by
 obtain ⟨c,hc,hu⟩:=List.mem_flatten.1 hu
 obtain ⟨s,_,rfl⟩:=List.mem_map.1 hc
 simp only[List.mem_cons,List.not_mem_nil,or_false] at hu
 rcases hu with rfl|rfl <;> rfl
theorem Box.setCell{ty:TypeId}{g:Nat}{vs:List Value}{w:World}(h:Box ty g vs w)(i:Nat)(u:Value):Box ty g (vs.set i u) (w.setCell ⟨g,i,none⟩ u):=by
 have:=heap_setCell_same w g i vs.toArray ty u h
 unfold Box
 rw[this];simp
theorem Box.frozen{ty:TypeId}{g:Nat}{vs:List Value}{w:World}(h:Box ty g vs w)(i:Nat):w.frozen? ⟨g,i,none⟩=false:=frozen_of_row w g i vs.toArray ty h
theorem Kp.setIn(w:World)(g i:Nat)(v:Value):Kp (fun b=>b=g) w (w.setCell ⟨g,i,none⟩ v):=
 ⟨rfl,rfl,rfl,by simp[World.setCell],fun b _ hb=>heap_setCell_other w ⟨g,i,none⟩ b v hb⟩
theorem Kp.setRow(w:World)(g:Nat)(cs:Array Value):Kp (fun b=>b=g) w (w.setRow g cs):=⟨rfl,rfl,rfl,by simp,fun b _ hb=>setRow_other w g b cs hb⟩
theorem Box.setRow{ty:TypeId}{g:Nat}{old:List Value}{w:World}(h:Box ty g old w)(vs:List Value):Box ty g vs (w.setRow g vs.toArray):=setRow_heap w g old.toArray vs.toArray ty (0,0) h
section
variable {P:Program}
theorem run_append_no(w:World)(base:Nat)(t ty e:TypeId)(i:TypeInfo)(size:Nat)(ht:P.underlying t=some (.slice e))(hi:P.info? e=some i)
 (v:Value) (n c:Nat) (xs:List Value) (hown:w.ownsRow base e size v n xs):(Builtin.append_ #[t,t] ty #[v, .slice none 0 c]).run P w= .ok v w:=by
 rcases hown.2 with ⟨rfl,rfl⟩|⟨g,cap,cur,rfl,_,_,hnc,_⟩
 ·simp[Builtin.append_,run_underlying ht,sizeOf,typeInfo,hi,Builtin.lenOf,Builtin.firstCells]
 ·simp[Builtin.append_,run_underlying ht,sizeOf,typeInfo,hi,Builtin.lenOf,Builtin.firstCells,hnc,storeCells]
theorem wpList_append_slice{w:World}{ops:Array Oper}{rest:List Oper}{o:Oper}{a:Act}{Q:Exit→Act→World→Prop}(hgd:o.guard=none)(s x:Operand)(t:TypeId)
 (ho:o.op= .call {callee:= .builtin .append,args:= #[s,x],argTypes:= #[t,t]})
 (base:Nat) (e:TypeId) (i:TypeInfo) (z:Value) (size bytes:Nat) (ht:P.underlying t=some (.slice e)) (hi:P.info? e=some i) (hz:i.zero=some z)
 (hsize:i.size=size) (hby:i.bytes=bytes) (hzs:z.cells.size=size) (hsz:0<size)
 (v:Value) (n:Nat) (xs:List Value) (hs:a.eval s=v) (hown:w.ownsRow base e size v n xs)
 (ao:Option Addr) (m c:Nat) (news:List Value) (hx:a.eval x= .slice ao m c) (hl:news.length=m*size) (hnews:0<m→ ∃ad,ao=some ad∧ ∀j u,news[j]? =some u→w.cell? (ad.add j)=some u) (h1: ∀u∈news,u.oneCell'=true)
 (h63:n+m≤maxLen) (hbytes:(n+m)*bytes≤140737488355328) (hbase:base≤w.heap.size)
 (h: ∀v' w',w'.ownsRow base e size v' (n+m) (xs++news)→w.grownBy w' v.ownBlock→wpList P ops Q rest (a.put o.dst v') w'):wpList P ops Q (o::rest) a w:=by
 cases ao with
 |some ad=>
  refine wpList_append_own w hgd s x t ho base e i z size bytes ht hi hz hsize hby hzs hsz v n xs hs hown ad m c news hx hl (fun j u hu=>?_) h1 h63 hbytes hbase (fun v' w' h2 h3 _=>h v' w' h2 h3)
  rcases Nat.eq_zero_or_pos m with rfl|hm
  ·rw[Nat.zero_mul] at hl
   rw[List.length_eq_zero_iff.1 hl] at hu;simp at hu
  ·obtain ⟨ad',e1,e2⟩:=hnews hm
   injection e1 with e1
   subst e1
   exact e2 j u hu
 |none=>
  have hm:m=0:=by
   rcases Nat.eq_zero_or_pos m with h|h
   ·exact h
   ·obtain ⟨_,e1,_⟩:=hnews h;cases e1
  subst hm
  rw[Nat.zero_mul] at hl
  have hn:news=[]:=List.length_eq_zero_iff.1 hl
  subst hn
  have hrun:=run_append_no (P:=P) w base t o.type e i size ht hi v n c xs hown
  refine wpList_plain hgd fun K hK=>?_
  unfold Oper.wp
  simp only[execOp,ho,resolve,invoke,builtin,Sem.run_bind,Sem.run_pure,Result.andThen_ok,List.map_toArray,List.map_cons,List.map_nil,hs,hx,hrun]
  exact hK _ _ (h v w (by simpa using hown) ⟨rfl,rfl,rfl,Nat.le_refl _,fun _ _ _=>rfl⟩)
end
theorem Box.grown{ty:TypeId}{g:Nat}{vs:List Value}{w w':World}{row:Option Nat}(h:Box ty g vs w)(hg:w.grownBy w' row)(hne:some g≠row):Box ty g vs w':=(hg.block g h.lt hne).trans h
theorem own_slice{w:World}{base:Nat}{e:TypeId}{size:Nat}{v:Value}{n:Nat}{xs:List Value}(h:w.ownsRow base e size v n xs): ∃a c,v= .slice a n c:=by
 rcases h.2 with ⟨rfl,rfl⟩|⟨g,cap,cur,rfl,_⟩
 ·exact ⟨none,0,rfl⟩
 ·exact ⟨_,_,rfl⟩
theorem Kp.grown{g:Nat}{w w':World}(h:Kp (fun b=>b=g) w w'):w.grownBy w' (some g):=⟨h.os,h.tape,h.output,h.size,fun k hk hn=>h.block k hk fun e=>hn (by rw[e])⟩
theorem r_shown19(f:NF)(a a2:Option Addr)(l c l2 c2:Nat)(lv:Int)(w:World)(hh:0≤f.hidden∧f.hidden≤15):
 Calls Tryz.prog 221 #[.int .i64 3, .agg (nfCells f (.slice a l c) (.slice a2 l2 c2)).toArray, .int .i64 lv] w fun e w'=>e= .returned (.bool (shownF f))∧Below w.heap.size w w':=by
 have HS:=hQ (show shownF f=decide (f.hidden / 8 % 2=0) from rfl)
 have HE:=hQ (fun W:World=>r_exists W)
 have hb:=below_alloc1 w
 generalize shownF f=sh at*
 unfold nfCells
 generalize f.hidden=hd at*
 obtain ⟨h0,h1⟩:=hh
 have hcase:(hd=0∨hd=1∨hd=2∨hd=3∨hd=4∨hd=5∨hd=6∨hd=7)∨(hd=8∨hd=9∨hd=10∨hd=11∨hd=12∨hd=13∨hd=14∨hd=15):=by omega
 clear h0 h1
 rcases hcase with h|h
 ·by_cases hk:f.kind=2
  ·have k2:=eqB' hk
   clear hk
   rcases h with rfl|rfl|rfl|rfl|rfl|rfl|rfl|rfl
   all_goals
    go_enter Tryz.func221,Tryz.ntmps221
    go_wp2_with (go_at_call 122;refine (HE.out _).mono ?_;rintro e w5 ⟨rfl,rfl⟩)
    go_ret
    exact ⟨ret_bool' (by rw[HS.out];decide),hb _⟩
  ·have k2:=neB' hk
   clear hk
   rcases h with rfl|rfl|rfl|rfl|rfl|rfl|rfl|rfl
   all_goals
    go_enter Tryz.func221,Tryz.ntmps221
    go_wp2_with (go_at_call 122;refine (HE.out _).mono ?_;rintro e w5 ⟨rfl,rfl⟩)
    go_ret
    exact ⟨ret_bool' (by rw[HS.out];decide),hb _⟩
 ·rcases h with rfl|rfl|rfl|rfl|rfl|rfl|rfl|rfl
  all_goals
   go_enter Tryz.func221,Tryz.ntmps221
   go_wp2_with (go_at_call 122;refine (HE.out _).mono ?_;rintro e w5 ⟨rfl,rfl⟩)
   go_ret
   exact ⟨ret_bool' (by rw[HS.out];decide),hb _⟩
end Go.Proofs.YtbeccmkegckjjaaGreatDoor
end
