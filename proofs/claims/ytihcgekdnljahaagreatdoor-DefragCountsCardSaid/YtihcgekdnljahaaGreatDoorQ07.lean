/- Law 54, DefragCounts: a part of the proof. -/
import Derived.WalkKit
import Derived.Laws.Rows
import Derived.Laws.CopyRow
import Derived.Laws.CopyOwn
import Derived.Deep.WholeRow
import Derived.Test.YtihcgekdnljahaaGreatDoorQ06
import Derived.BigQuiet
import Derived.Deep.QuietTactic
import Derived.Deep.Cut
import Derived.Deep.DeepCutAuto
import Derived.Maps.OwnSet
import Derived.Maps.OwnOps
import Derived.Maps.Views
import Derived.Maps.AppendAt
import Derived.StringKeys
section
namespace Go.Proofs.YtihcgekdnljahaaGreatDoor
open Go.RowKit
theorem wpList_store_row{P:Program}{w:World}{ops:Array Oper}{rest:List Oper}{o:Oper}{a:Act}{Q:Exit→Act→World→Prop}(hgd:o.guard=none)(p x:Operand)(ty:TypeId)(ho:o.op= .store ty p x)
 (g:Nat) (t:TypeId) (old vs:Array Value) (hp:a.eval p= .pointer (some ⟨g,0,none⟩)) (hx:a.eval x= .agg vs) (hg:w.heap[g]? =some (.cells old t (0,0))) (n:Nat) (hi:(P.info? ty).map (·.size)=some n)
 (hs:old.size=n) (hv:vs.size=n) (h1:vs.all (·.oneCell')=true) (h:wpList P ops Q rest (a.put o.dst undef) (w.setRow g vs)):wpList P ops Q (o::rest) a w:=
 wpList_plain hgd fun K hK=>by
  have hr:=run_storeVar_row (P:=P) w g t ty old vs hg (by rw[hv];exact hi) (by rw[hv];exact hs) h1
  unfold Oper.wp execOp
  simp only[ho,Instr.storeAt,Instr.sureAddr,Sem.run_bind,Sem.run_pure,Result.andThen_ok,hp,hx,hr]
  exact hK _ _ h
end Go.Proofs.YtihcgekdnljahaaGreatDoor
end
section
namespace Go.Proofs.YtihcgekdnljahaaGreatDoor
open Go.RowKit Go.Lib
set_option maxRecDepth 1000000
set_option maxHeartbeats 6400000
def Box(ty:TypeId)(g:Nat)(vs:List Value)(wx:World):Prop:=wx.heap[g]? =some (.cells vs.toArray ty (0,0))
theorem Box.lt{ty:TypeId}{g:Nat}{vs:List Value}{wx:World}(h:Box ty g vs wx):g<wx.heap.size:=(Array.getElem?_eq_some_iff.1 h).1
theorem Box.cell{ty:TypeId}{g:Nat}{vs:List Value}{wx:World}(h:Box ty g vs wx)(k:Nat)(v:Value)(hv:vs[k]? =some v):wx.cell? ⟨g,k,none⟩=some v:=by
 rw[cell_of_row _ _ k _ _ (0,0) h];simpa using hv
theorem Box.step{ty:TypeId}{g:Nat}{vs:List Value}{wx w':World}(h:Box ty g vs wx)(hb:Below wx.heap.size wx w'):Box ty g vs w':=(hb.block g h.lt).trans h
section
variable {P:Program}
theorem run_loadVar_at(w:World)(a:Addr)(ty:TypeId)(cs:List Value)(d:TypeDesc)(hc: ∀j v,cs[j]? =some v→w.cell? (a.add j)=some v)
 (hu:P.underlying ty=some d) (hd:(match d with| .struct _| .array _ _=>true|_=>false)=true) (hi:(P.info? ty).map (·.size)=some cs.length):(loadVar ty a).run P w= .ok (.agg cs.toArray) w:=by
 have hl:(loadCells a cs.length).run P w= .ok cs.toArray w:=run_loadCells_list (P:=P) w a cs hc
 cases hq:P.info? ty with
 |none=>simp[hq] at hi
 |some i=>
  have hs:i.size=cs.length:=by simpa[hq] using hi
  have hagg:(isAgg ty).run P w= .ok true w:=by
   unfold isAgg
   rw[Sem.run_bind,run_underlying hu w]
   cases d <;> simp_all
  simp[loadVar,Sem.run_bind,hagg,sizeOf,typeInfo,hq,hs,hl]
theorem wpList_load_at{w:World}{ops:Array Oper}{rest:List Oper}{o:Oper}{a:Act}{Q:Exit→Act→World→Prop}(hgd:o.guard=none)(p:Operand)(ty:TypeId)(ho:o.op= .load ty p)
 (b off:Nat) (cs:List Value) (d:TypeDesc) (hp:a.eval p= .pointer (some ⟨b,off,none⟩)) (hc: ∀j v,cs[j]? =some v→w.cell? ⟨b,off+j,none⟩=some v) (hu:P.underlying ty=some d)
 (hd:(match d with| .struct _| .array _ _=>true|_=>false)=true) (hi:(P.info? ty).map (·.size)=some cs.length) (h:wpList P ops Q rest (a.put o.dst (.agg cs.toArray)) w):wpList P ops Q (o::rest) a w:=
 wpList_plain hgd fun K hK=>by
  have hr:=run_loadVar_at (P:=P) w ⟨b,off,none⟩ ty cs d (fun j v hv=>by
   have hadd:(⟨b,off,none⟩:Addr).add j=⟨b,off+j,none⟩:=by unfold Addr.add;split <;> simp_all
   rw[hadd];exact hc j v hv) hu hd hi
  unfold Oper.wp execOp
  simp only[ho,Instr.loadAt,Instr.sureAddr,Sem.run_bind,Sem.run_pure,Result.andThen_ok,hp,hr]
  exact hK _ _ h
end
theorem file_size:(Tryz.prog.info? 33).map (·.size)=some 3:=by kernel_rfl
def fileC(d:FileT):List Value:=[.string d.1, .int .i64 d.2.1, .int .i64 d.2.2]
theorem file_cells{F:List FileT}{v:Value}{B:Nat}{w:World}(hv:RowV w (· < B) v 3 (fileCells F)): ∃a c,v= .slice a F.length c∧ ∀k,(h:k<F.length)→ ∃b off,a=some ⟨b,off,none⟩∧b<B∧ ∀j x,(fileC F[k])[j]? =some x→w.cell? ⟨b,off+k*3+j,none⟩=some x:=by
 obtain ⟨a,c,rfl,hrow⟩:=hv
 have hlen:(fileCells F).length=F.length:=by simp[fileCells]
 refine ⟨a,c,by rw[hlen],fun k h=>?_⟩
 obtain ⟨b,off,h1,h2,h3⟩:=hrow k (by omega)
 exact ⟨b,off,h1,h2,fun j x hx=>h3 j x (by simpa[fileCells,fileC] using hx)⟩
end Go.Proofs.YtihcgekdnljahaaGreatDoor
end
section
namespace Go.Proofs.YtihcgekdnljahaaGreatDoor
open Go.RowKit Go.Lib
set_option maxRecDepth 1000000
set_option maxHeartbeats 6400000
def intsOK(F:List FileT):Prop:= ∀f∈F,isInt f.2.1∧isInt f.2.2
theorem max_if(a b:Int):max a b=if b<a then a else b:=by
 split <;> omega
theorem r_cost(F:List FileT)(L:List ByteArray)(v u:Value)(B:Nat)(w:World)(hv:RowV w (· < B) v 3 (fileCells F))(hu:RowV w (· < B) u 1 (strCells L))(hB:B≤w.heap.size)(hl:F.length≤1100)(hL:L.length≤F.length)(hin: ∀p∈L,hasF F p=true)(hi:intsOK F):
 Calls Tryz.prog 18 #[v,u] w fun e w'=>e= .returned (.tuple #[.int .i64 (costRL F L).1, .int .i64 (costRL F L).2])∧Below w.heap.size w w':=by
 obtain ⟨a,c,rfl,hrow⟩:=file_cells hv
 obtain ⟨ua,uc,rfl,hrowu⟩:=str_rows hu
 have HROW:=hQ hrow
 have HROU:=hQ hrowu
 have HIN:=hQ hin
 have HI:=hQ hi
 clear hrow hrowu hv hu hin hi
 by_cases hbig:1024<F.length
 ·have hb1:(1024:Int)<F.length:=by omega
  have HC:=hQ (show costRL F L=(0,7) from if_pos hbig)
  clear hbig
  go_enter Tryz.func18,Tryz.ntmps18
  go_wp2
  go_ret2
  exact ⟨by rw[HC.out];rfl,Below.refl _ _⟩
 ·have hb1:(F.length:Int)≤1024:=by omega
  have hb2:(L.length:Int)≤1024:=by omega
  have HC:=hQ (show costRL F L=if F.all fileOk then ((costOf F L).1,0) else (0,1) from if_neg hbig)
  clear hbig
  go_enter Tryz.func18,Tryz.ntmps18
  go_wp2
  go_loopw [6] (fun i wr=> ∃k:Nat,i= .int .i64 k∧k≤F.length∧(F.take k).all fileOk=true∧Below w.heap.size w wr) (fun i _=>F.length-(RowKit.intOf i).toNat)
  case atStart=>exact ⟨0,rfl,Nat.zero_le _,rfl,Below.refl _ _⟩
  case round=>
   obtain ⟨k,rfl,hk,hok,hbw⟩:=hrel
   by_cases hlt:k<F.length
   ·have hi':(k:Int)<F.length:=by omega
    obtain ⟨b,off,rfl,hbB,hcw⟩:=HROW.out k hlt
    have HCELL:=hQ (fun j x hx=>(hbw.cell (Nat.lt_of_lt_of_le hbB hB)).trans (hcw j x hx))
    clear hcw
    have HIF:=hQ (HI.out _ (List.getElem_mem hlt))
    have HV:=hQ (r_valid F[k] HIF.out.1 HIF.out.2)
    have HT:=hQ (all_take hlt)
    have HK:=hQ hok
    have HBW:=hQ hbw
    have HM:=hQ (List.getElem_mem hlt)
    clear hok hbw
    by_cases hv:fileOk F[k]=true
    ·have HN:=hQ (show (F.take (k+1)).all fileOk=true by rw[HT.out,HK.out,hv];rfl)
     rw[hv] at HV
     clear HT hv
     generalize F[k]=d at*
     go_wp2_with (first
      |(refine wpList_load_at rfl _ _ rfl b (off+k*3) (fileC d) _ rfl HCELL.out Tryz.underlying33 rfl file_size ?_)
      |(go_at_call 42;refine (HV.out _).mono ?_;rintro e wz ⟨rfl,hbz⟩;have HZ:=hQ hbz;clear hbz)
      |go_in)
     go_roundw
     case rel=>exact ⟨k+1,by go_num,by omega,HN.out,HBW.out.trans (HZ.out.mono HBW.out.size)⟩
     case measure=>simp[RowKit.intOf];omega
    ·have hv':fileOk F[k]=false:=by simpa using hv
     have HN:=hQ (show F.all fileOk=false by
      rw[Bool.eq_false_iff];intro h;rw[List.all_eq_true] at h;exact hv (h _ HM.out))
     rw[hv'] at HV
     clear HT hv hv'
     generalize F[k]=d at*
     go_wp2_with (first
      |(refine wpList_load_at rfl _ _ rfl b (off+k*3) (fileC d) _ rfl HCELL.out Tryz.underlying33 rfl file_size ?_)
      |(go_at_call 42;refine (HV.out _).mono ?_;rintro e wz ⟨rfl,hbz⟩;have HZ:=hQ hbz;clear hbz)
      |go_in)
     go_ret2
     exact ⟨by rw[HC.out,HN.out];rfl,HBW.out.trans (HZ.out.mono HBW.out.size)⟩
   ·have hk':k=F.length:=by omega
    subst hk'
    rw[List.take_of_length_le (Nat.le_refl _)] at hok
    have hge:(F.length:Int)≤F.length:=Int.le_refl _
    have HK:=hQ hok
    have HC2:=hQ (show costRL F L=((costOf F L).1,0) by rw[HC.out,if_pos hok])
    clear hok HC
    go_wp2
    clear hge hk hlt
    go_loopw [7,8,9] (fun sum pos i wx=> ∃k:Nat,i= .int .i64 k∧k≤L.length∧sum= .int .i64 (costOf F (L.take k)).1∧pos= .int .i64 (costOf F (L.take k)).2∧Below w.heap.size w wx) (fun _ _ i _=>L.length-(RowKit.intOf i).toNat)
    case atStart=>exact ⟨0,rfl,Nat.zero_le _,rfl,rfl,hbw⟩
    case round=>
     obtain ⟨k,rfl,hk,rfl,rfl,hbx⟩:=hrel
     have hG:=costOf_good (F:=F) (L.take k) (by omega) HK.out
     have hlk:(L.take k).length≤1024:=by rw[List.length_take];omega
     by_cases hlt:k<L.length
     ·have hi':(k:Int)<L.length:=by omega
      obtain ⟨ub,uoff,rfl,hubB,hcu⟩:=HROU.out k hlt
      have HT:=hQ (costOf_take F L k hlt)
      have HP:=hQ (HIN.out _ (List.getElem_mem hlt))
      have HCU:=hQ (show ∀W,Below w.heap.size w W→W.cell? ⟨ub,uoff+k,none⟩=some (.string L[k]) from fun W hW=>(hW.cell (Nat.lt_of_lt_of_le hubB hB)).trans hcu)
      generalize hc0:costOf F (L.take k)=c0 at*
      generalize L[k]=p at*
      clear hcu hc0
      go_wp2
      go_loopw [7,8,10,11] (fun sum pos found j wy=> ∃m:Nat,j= .int .i64 m∧m≤F.length∧sum= .int .i64 (costP (F.take m) p c0).1∧pos= .int .i64 (costP (F.take m) p c0).2∧found= .bool (hasF (F.take m) p)∧Below w.heap.size w wy) (fun _ _ _ j _=>F.length-(RowKit.intOf j).toNat)
      case atStart=>exact ⟨0,rfl,Nat.zero_le _,rfl,rfl,rfl,hbx⟩
      case round=>
       obtain ⟨m,rfl,hm,rfl,rfl,rfl,hby⟩:=hrel
       have hG2:=costP_good (F:=F.take m) (p:=p) hG (by rw[List.all_eq_true];intro f hf;exact List.all_eq_true.1 HK.out f (List.mem_of_mem_take hf))
       have hlm:(F.take m).length≤1024:=by rw[List.length_take];omega
       by_cases hlm2:m<F.length
       ·have hj':(m:Int)<F.length:=by omega
        obtain ⟨b,off,rfl,hbB,hcw⟩:=HROW.out m hlm2
        have HIF:=hQ (HI.out _ (List.getElem_mem hlm2))
        have HOK:=hQ (List.all_eq_true.1 HK.out _ (List.getElem_mem hlm2))
        have HS:=hQ (costP_take F p c0 m hlm2)
        have HH:=hQ (hasF_take F p m hlm2)
        have HCF:=hQ (show ∀W,Below w.heap.size w W→W.cell? ⟨b,off+m*3,none⟩=some (.string F[m].1)∧W.cell? ⟨b,off+m*3+1,none⟩=some (.int .i64 F[m].2.1)∧W.cell? ⟨b,off+m*3+2,none⟩=some (.int .i64 F[m].2.2) from fun W hW=>⟨(hW.cell (Nat.lt_of_lt_of_le hbB hB)).trans (hcw 0 _ rfl),(hW.cell (Nat.lt_of_lt_of_le hbB hB)).trans (hcw 1 _ rfl),(hW.cell (Nat.lt_of_lt_of_le hbB hB)).trans (hcw 2 _ rfl)⟩)
        clear hcw
        have cu:=HCU.out _ hby
        obtain ⟨cf0,cf1,cf2⟩:=HCF.out _ hby
        generalize F[m]=d at*
        generalize hcm:costP (F.take m) p c0=cm at*
        generalize hhm:hasF (F.take m) p=hh at*
        have HBY:=hQ hby
        clear hby
        have hlm3:(m:Int)≤1024:=by omega
        have hlk3:(((L.take k).length:Nat):Int)≤1024:=by omega
        have hlm4:(((F.take m).length:Nat):Int)≤1024:=by omega
        obtain ⟨q1,q2,q3,q4⟩:=hG2
        have q2':cm.1≤4299161600:=by omega
        obtain ⟨f1,f2,f3,f4⟩:=fileOk_parts HOK.out
        have f5:=blocksOf_nn d.2.2
        by_cases hp:d.1=p
        ·have HN2:=hQ (show hasF (F.take (m+1)) p=true by rw[HH.out,decide_eq_true hp,Bool.or_true])
         rw[hp] at cf0
         by_cases hz:0<d.2.2
         ·have HN1:=hQ (show costP (F.take (m+1)) p c0=(cm.1+(if cm.2-d.2.1<d.2.1-cm.2 then d.2.1-cm.2 else cm.2-d.2.1),d.2.1+blocksOf d.2.2) by
           rw[HS.out,if_pos hp];unfold costStep;rw[if_pos hz,max_if])
          have HBL:=hQ (fun W:World=>r_blocks d.2.2 HIF.out.2 W)
          clear hp HS HH HOK hG hlm hlk hlm4 hlk3 q2
          generalize blocksOf d.2.2=bl at*
          generalize d.2.1=st at*
          generalize d.2.2=ln at*
          generalize cm.1=c1 at*
          generalize cm.2=c2 at*
          go_upto_region 16 with (fail)
          go_quiet (fail)
          go_upto_region 19 with (fail)
          go_region
          go_upto_region 20 with (fail)
          have HB5:=hQ (below_drewN' HBY.out (nq+1))
          obtain ⟨-,k1,k2⟩:=HCF.out _ HB5.out
          generalize wr.drewN (nq+1)=w5 at*
          go_quiet ((go_at_call 43;first|with_reducible exact Calls.quiet_of_same (HBL.out _)))
          go_wp2
          go_roundw
          case rel=>exact ⟨m+1,by go_num,by omega,by rw[HN1.out];try (congr 1;split <;> omega),by rw[HN1.out],by rw[HN2.out],below_drewN' HB5.out _⟩
          case measure=>simp[RowKit.intOf];omega
         ·have HN1:=hQ (show costP (F.take (m+1)) p c0=cm by rw[HS.out,if_pos hp];unfold costStep;rw[if_neg hz])
          have hz':d.2.2≤0:=by omega
          clear hp HS HH HOK hG hlm hlk hlm4 hlk3 q2 hz
          generalize d.2.2=ln at*
          go_upto_region 16 with (fail)
          go_quiet (fail)
          go_wp2
          go_roundw
          case rel=>exact ⟨m+1,by go_num,by omega,by rw[HN1.out],by rw[HN1.out],by rw[HN2.out],below_drewN' HBY.out _⟩
          case measure=>simp[RowKit.intOf];omega
        ·have HN1:=hQ (show costP (F.take (m+1)) p c0=cm by rw[HS.out,if_neg hp])
         have HN2:=hQ (show hasF (F.take (m+1)) p=hh by rw[HH.out,decide_eq_false hp,Bool.or_false])
         have hne:=neS hp
         generalize d.1=q at*
         clear hp
         go_upto_region 16 with (fail)
         go_quiet (fail)
         go_wp2
         go_roundw
         case rel=>exact ⟨m+1,by go_num,by omega,by rw[HN1.out],by rw[HN1.out],by rw[HN2.out],below_drewN' HBY.out _⟩
         case measure=>simp[RowKit.intOf];omega
       ·have hm':m=F.length:=by omega
        subst hm'
        rw[List.take_of_length_le (Nat.le_refl _)]
        have hge:(F.length:Int)≤F.length:=Int.le_refl _
        have HN:=hQ (show costOf F (L.take (k+1))=costP F p c0 from HT.out)
        have hpt:=HP.out
        have HBY:=hQ hby
        clear hby hG2 hG
        generalize hasF F p=hh at*
        subst hpt
        generalize costP F p c0=cp at*
        go_wp2
        go_roundw
        case rel=>exact ⟨k+1,by go_num,by omega,by rw[HN.out],by rw[HN.out],HBY.out⟩
        case measure=>simp[RowKit.intOf];omega
     ·have hk':k=L.length:=by omega
      subst hk'
      rw[List.take_of_length_le (Nat.le_refl _)]
      have hge:(L.length:Int)≤L.length:=Int.le_refl _
      have HBX:=hQ hbx
      clear hbx hG
      generalize costOf F L=cp at*
      go_wp2
      go_ret2
      exact ⟨by rw[HC2.out];rfl,HBX.out⟩
end Go.Proofs.YtihcgekdnljahaaGreatDoor
end
section
namespace Go.Proofs.YtihcgekdnljahaaGreatDoor
open Go.RowKit Go.Lib
set_option maxRecDepth 1000000
set_option maxHeartbeats 6400000
theorem r_cost54(F:List FileT)(v:Value)(B:Nat)(w:World)(hv:RowV w (· < B) v 3 (fileCells F))(hB:B≤w.heap.size)(hl:F.length≤1100)(hi:intsOK F):
 Calls Tryz.prog 6 #[v] w fun e w'=>e= .returned (.tuple #[.int .i64 (costRL F (allOf F)).1, .int .i64 (costRL F (allOf F)).2])∧Below w.heap.size w w':=by
 have HA:=hQ (r_all F v B w hv hB hl)
 have HC:=hQ (fun (W:World) (u:Value) (hW:Below w.heap.size w W) (hu:RowV W (· < W.heap.size) u 1 (strCells (allOf F)))=>
  r_cost F (allOf F) v u W.heap.size W ((hv.below (hW.mono hB)).frame fun b hb=>⟨Nat.lt_of_lt_of_le hb (Nat.le_trans hB hW.size),fun _=>rfl⟩) hu (Nat.le_refl _) hl (allOf_len F) (fun p hp=>hasF_all hp) hi)
 generalize costRL F (allOf F)=r at*
 go_enter Tryz.func6,Tryz.ntmps6
 go_wp2_with (first
  |(go_at_call 19;refine HA.out.mono ?_;rintro e w1 ⟨o,rfl,hown1,hb1⟩;have HO1:=hQ (row_of_own hown1);have HB1:=hQ hb1;clear hown1 hb1)
  |(go_at_call 18;refine (HC.out _ _ HB1.out HO1.out).mono ?_;rintro e w2 ⟨rfl,hb2⟩;have HB2:=hQ hb2;clear hb2)
  |go_in)
 go_ret2
 exact ⟨rfl,HB1.out.trans (HB2.out.mono HB1.out.size)⟩
end Go.Proofs.YtihcgekdnljahaaGreatDoor
end
section
namespace Go.Proofs.YtihcgekdnljahaaGreatDoor
open Go.RowKit Go.Lib
set_option maxRecDepth 1000000
set_option maxHeartbeats 6400000
def heldR(v:Value):Option (DataW Value × List MemPlace):=some (.held v,[])
def MapV(w:World)(b n:Nat)(z:Value)(m:ByteArray→Value):Prop:=
 ∃D:DataW Value,w.ownsMap Tryz.prog 9 heldR b n D∧ ∀p:ByteArray,D.atKey (.string p.data.toList) (.held z)= .held (m p)
def upd(m:ByteArray→Value)(p:ByteArray)(v:Value):ByteArray→Value:=fun q=>if q=p then v else m q
theorem keyed_str:Go.Maps.Keyed Tryz.prog 9:=Go.Maps.string_keyed Tryz.underlying9
theorem MapV_made(w:World)(z:Value):MapV (w.alloc (.map #[] 0)) w.heap.size 0 z (fun _=>z):=
 ⟨.map [],World.ownsMap_made ..,fun _=>rfl⟩
section
variable {w w':World} {b n:Nat} {z:Value} {m:ByteArray→Value}
theorem MapV.lt(h:MapV w b n z m):b<w.heap.size:=by obtain ⟨D,h,_⟩:=h;exact h.lt
theorem MapV.kept{row:Option Nat}(h:MapV w b n z m)(hg:w.grownBy w' row)(hne:some b≠row):MapV w' b n z m:=by
 obtain ⟨D,h,h2⟩:=h
 exact ⟨D,h.kept hg hne,h2⟩
theorem MapV.alloc(h:MapV w b n z m)(o:Obj):MapV (w.alloc o) b n z m:=by
 obtain ⟨D,h,h2⟩:=h
 exact ⟨D,h.alloc o,h2⟩
theorem MapV.of_block(h:MapV w b n z m)(hb:w'.heap[b]? =w.heap[b]?):MapV w' b n z m:=by
 obtain ⟨D,⟨es,clock,h1,h3⟩,h2⟩:=h
 exact ⟨D,⟨es,clock,hb.trans h1,h3⟩,h2⟩
theorem key_ne{p q:ByteArray}(h:q≠p):(Lit.string q.data.toList)≠ .string p.data.toList:=by
 intro e
 apply h
 obtain ⟨⟨a⟩⟩:=q
 obtain ⟨⟨c⟩⟩:=p
 simpa using e
theorem MapV.look{t e:TypeId}(h:MapV w b n z m)(ht:Tryz.prog.underlying t=some (.map 9 e))(hz:(zeroValue e).run Tryz.prog w= .ok z w){p:ByteArray}(hp:p.size≤maxLen):
 (Instr.lookup t (.map (some b)) (.string p) false).run Tryz.prog w= .ok (m p) w:=by
 obtain ⟨D,h1,h2⟩:=h
 obtain ⟨v,ps,hrun,hv⟩:=h1.lookup keyed_str ht hz (zd:= .held z) (zp:=[]) rfl (Go.WideMaps.keyOf_string_mk Tryz.underlying9 hp)
 rw[h2 p] at hv
 simp only[heldR,Option.some.injEq,Prod.mk.injEq,DataW.held.injEq] at hv
 rw[hrun,hv.1]
theorem MapV.store{t e:TypeId}(h:MapV w b n z m)(ht:Tryz.prog.underlying t=some (.map 9 e))(hn:n<maxLen){p:ByteArray}(hp:p.size≤maxLen)(v:Value):
 ∃w',(Instr.mapUpdate t (.map (some b)) (.string p) v).run Tryz.prog w= .ok () w'∧MapV w' b (n+1) z (upd m p v)∧w.grownBy w' (some b):=by
 obtain ⟨D,h1,h2⟩:=h
 have hk:=Go.WideMaps.keyOf_string_mk Tryz.underlying9 hp
 obtain ⟨w',hrun,h3,h4⟩:=h1.update keyed_str ht hn hk (d:= .held v) (ps:=[]) rfl
 refine ⟨w',hrun,⟨_,h3,fun q=>?_⟩,h4⟩
 unfold upd
 by_cases hq:q=p
 ·subst hq
  rw[if_pos rfl,Go.Maps.atKey_put_same h1.isMap (keyed_str.key hk)]
 ·rw[if_neg hq,Go.Maps.atKey_put_other (key_ne hq),h2 q]
end
section
variable {w:World} {ops:Array Oper} {rest:List Oper} {o:Oper} {a:Act} {Q:Exit→Act→World→Prop}
theorem wpList_look_v(hg:o.guard=none)(mo x:Operand)(t:TypeId)(hop:o.op=Op.lookup t mo x false)(e:TypeId)(ht:Tryz.prog.underlying t=some (.map 9 e))(z:Value)(hz:(zeroValue e).run Tryz.prog w= .ok z w)
 (b n:Nat) (m:ByteArray→Value) (hm:a.eval mo= .map (some b)) (h:MapV w b n z m) (p:ByteArray) (hx:a.eval x= .string p) (hp:p.size≤maxLen) (hK:wpList Tryz.prog ops Q rest (a.put o.dst (m p)) w):
 wpList Tryz.prog ops Q (o::rest) a w:=by
 refine wpList_plain hg fun K' hK'=>?_
 have hrun:=h.look ht hz hp
 unfold Oper.wp
 simp[execOp,hop,hm,hx,hrun,Result.andThen]
 exact hK' _ _ hK
end
end Go.Proofs.YtihcgekdnljahaaGreatDoor
end
section
namespace Go.Proofs.YtihcgekdnljahaaGreatDoor
open Go.RowKit Go.Lib
set_option maxRecDepth 1000000
set_option maxHeartbeats 6400000
theorem p_index(l:List ByteArray)(p:ByteArray)(v:Value)(B:Nat)(w:World)(hv:RowV w (· < B) v 1 (strCells l))(hl:l.length≤1100):
 Calls Tryz.prog 40 #[v, .string p] w fun e w'=>(∃r:Int,e= .returned (.int .i64 r)∧decide (0≤r)=hasP l p)∧w'=w:=by
 obtain ⟨a,c,rfl,hrow⟩:=str_rows hv
 have HROW:=hQ hrow
 clear hrow hv
 go_enter Tryz.func40,Tryz.ntmps40
 go_wp2_with fail
 go_loopw [8] (fun i wr=> ∃k:Nat,i= .int .i64 k∧k≤l.length∧hasP (l.take k) p=false∧wr=w) (fun i _=>l.length-(RowKit.intOf i).toNat)
 case atStart=>exact ⟨0,rfl,Nat.zero_le _,rfl,rfl⟩
 case round=>
  obtain ⟨k,rfl,hk,hno,hw⟩:=hrel
  by_cases hlt:k<l.length
  ·have hi':(k:Int)<l.length:=by omega
   obtain ⟨b,off,rfl,hbB,hc⟩:=HROW.out k hlt
   have hc0:wr.cell? ⟨b,off+k,none⟩=some (.string l[k]):=by rw[hw];exact hc
   clear hc
   have HW:=hQ hw
   clear hw
   by_cases he:l[k]=p
   ·have HB:=hQ (show hasP l p=true from hasP_iff.2 (he▸List.getElem_mem hlt))
    rw[he] at hc0
    clear hno
    go_wp2
    go_ret
    exact ⟨⟨k,rfl,by rw[HB.out];simp⟩,HW.out⟩
   ·have HN:=hQ (show hasP (l.take (k+1)) p=false by rw[hasP_take l p k hlt,hno];simp[he])
    clear hno
    have hne:=neS (fun e=>he e.symm)
    generalize l[k]=q at*
    clear he
    go_wp2
    go_roundw
    case rel=>exact ⟨k+1,by go_num,by omega,HN.out,HW.out⟩
    case measure=>simp[RowKit.intOf];omega
  ·have hk':k=l.length:=by omega
   subst hk'
   rw[List.take_of_length_le (Nat.le_refl _)] at hno
   have hge:(l.length:Int)≤l.length:=Int.le_refl _
   have HB:=hQ hno
   clear hno
   go_wp2
   go_ret
   exact ⟨⟨-1,rfl,by rw[HB.out];rfl⟩,rfl⟩
theorem p_contains(l:List ByteArray)(p:ByteArray)(v:Value)(B:Nat)(w:World)(hv:RowV w (· < B) v 1 (strCells l))(hl:l.length≤1100):
 Calls Tryz.prog 16 #[v, .string p] w fun e w'=>e= .returned (.bool (hasP l p))∧w'=w:=by
 have H:=hQ (p_index l p v B w hv hl)
 go_enter Tryz.func16,Tryz.ntmps16
 go_wp2_with fail
 refine H.out.mono ?_
 rintro e w1 ⟨⟨r,rfl,hr⟩,hw⟩
 replace hr:=hQ hr
 have HW:=hQ hw
 clear hw
 go_wp2
 go_ret
 exact ⟨by rw[←hr.out];rfl,HW.out⟩
theorem p_cost_of(F:List FileT)(v:Value)(B:Nat)(w:World)(R:Int × Int)(hv:RowV w (· < B) v 3 (fileCells F))(hB:B≤w.heap.size)(hl:F.length≤1100)
 (hC: ∀(W:World) (u:Value),Below w.heap.size w W→RowV W (· < W.heap.size) u 1 (strCells (allOf F))→Calls Tryz.prog 17 #[v,u] W fun e w'=>e= .returned (.tuple #[.int .i64 R.1, .int .i64 R.2])∧Below W.heap.size W w'):
 Calls Tryz.prog 5 #[v] w fun e w'=>e= .returned (.tuple #[.int .i64 R.1, .int .i64 R.2])∧Below w.heap.size w w':=by
 obtain ⟨i0,hi,hz0,hz1,hz2⟩:=info_parts info_str
 have HC:=hQ hC
 obtain ⟨a,c,rfl,hrow⟩:=file_cells hv
 have HROW:=hQ hrow
 clear hrow hv hC
 go_enter Tryz.func5,Tryz.ntmps5
 go_wp2_with fail
 go_loopw [4,9] (fun out i wr=>OutP (fun k=>allOf (F.take k)) F.length w out i wr) (fun _ i _=>F.length-(RowKit.intOf i).toNat)
 case atStart=>exact ⟨0,rfl,Nat.zero_le _,World.ownsRow_nil ..,Below.refl _ _⟩
 case round=>
  obtain ⟨k,rfl,hk,hown,hbw⟩:=hrel
  replace hown:wr.ownsRow w.heap.size 9 1 _ (allOf (F.take k)).length (strsV (allOf (F.take k))):=hown
  by_cases hlt:k<F.length
  ·have hi':(k:Int)<F.length:=by omega
   obtain ⟨b,off,rfl,hbB,hcw⟩:=HROW.out k hlt
   have HCELL:=hQ (fun j x hx=>(hbw.cell (Nat.lt_of_lt_of_le hbB hB)).trans (hcw j x hx))
   clear hcw
   have HT:=hQ (allOf_take F k hlt)
   have HL:=hQ (show (allOf (F.take k)).length≤k by have:=allOf_len (F.take k);simp at this;omega)
   generalize F[k]=d at*
   generalize hL:allOf (F.take k)=L at*
   clear hL
   obtain ⟨oa,oc,rfl⟩:=own_slice hown
   obtain ⟨p,st,ln⟩:=d
   replace HCELL:=hQ (show ∀j x,([.string p, .int .i64 st, .int .i64 ln]:List Value)[j]? =some x→wr.cell? ⟨b,off+k*3+j,none⟩=some x from HCELL.out)
   go_upto_region 5 with (first
    |(refine wpList_load_at rfl _ _ rfl b (off+k*3) [.string p, .int .i64 st, .int .i64 ln] _ rfl HCELL.out Tryz.underlying33 rfl file_size ?_)
    |(refine wpList_store_row rfl _ _ _ rfl wr.heap.size _ #[.string ⟨#[]⟩, .int .i64 0, .int .i64 0] [.string p, .int .i64 st, .int .i64 ln].toArray rfl rfl (heap_alloc_last _ _) 3 file_size rfl rfl rfl ?_)
    |go_in)
   have hbox2:Box 33 wr.heap.size [.string p, .int .i64 st, .int .i64 ln] (wr.alloc (.cells #[.string p, .int .i64 st, .int .i64 ln] 33)):=heap_alloc_last _ _
   have hbel2:=below_alloc1 wr (.cells #[.string p, .int .i64 st, .int .i64 ln] 33)
   generalize wr.alloc (.cells #[.string p, .int .i64 st, .int .i64 ln] 33)=w2 at hbox2 hbel2 ⊢
   have hbw2:=hbw.trans (hbel2.mono hbw.size)
   have hown2:=own_below' hown hbel2
   have c0:=hbox2.cell 0 _ rfl
   have HR:=hQ (p_contains L p _ _ w2 (row_of_own hown2) (by have:=HL.out;omega))
   have HOWN:=hQ hown2
   have HBW:=hQ hbw2
   clear hown hown2 hbw hbw2 hbox2 hbel2 HCELL
   generalize wr.heap.size=g at*
   by_cases hp:hasP L p=true
   ·have HE:=hQ (show allOf (F.take (k+1))=L by rw[HT.out];exact if_pos hp)
    rw[hp] at HR
    clear hp HT
    go_wp2_with (first
     |(go_at_call 16;refine HR.out.mono ?_;rintro e wz ⟨rfl,hwz⟩;rw[hwz];clear hwz wz)
     |go_in)
    go_roundw
    case rel=>exact ⟨k+1,by go_num,by omega,by show World.ownsRow _ _ _ _ _ (allOf (F.take (k+1))).length (strsV (allOf (F.take (k+1))));rw[HE.out];exact HOWN.out,HBW.out⟩
    case measure=>simp[RowKit.intOf];omega
   ·have hp':hasP L p=false:=by simpa using hp
    have HE:=hQ (show allOf (F.take (k+1))=L++[p] by rw[HT.out];exact if_neg hp)
    have hLk:=HL.out
    rw[hp'] at HR
    clear hp hp' HT HL
    go_wp2_with (first
     |(at_builtin;refine wpList_append_own _ rfl _ _ 28 rfl w.heap.size 9 i0 (.string ⟨#[]⟩) 1 16 Tryz.underlying28 hi hz0 hz1 hz2 rfl (by decide) _ _ _ rfl (HOWN.out.alloc _) ⟨w2.heap.size,0,none⟩ 1 1 [.string p] rfl rfl ?_ ?_ ?_ ?_ ?_ ?_)
     |(go_at_call 16;refine HR.out.mono ?_;rintro e wz ⟨rfl,hwz⟩;rw[hwz];clear hwz wz)
     |go_in)
    ·intro j u hj
     match j,hj with
     |0,hj=>simp at hj;subst hj;exact new_one _ _ _ _ rfl
    ·intro u hu;simp at hu;subst hu;rfl
    ·unfold maxLen;omega
    ·omega
    ·exact (HBW.out.alloc HBW.out.size _).size
    ·intro v' w3 hown' hgrow _
     have hb2:=(HBW.out.alloc HBW.out.size _).grown hgrow (HBW.out.alloc HBW.out.size _).size (fun j hj=>(HOWN.out.lt j hj).1)
     have ho2:w3.ownsRow w.heap.size 9 1 v' (allOf (F.take (k+1))).length (strsV (allOf (F.take (k+1)))):=by
      rw[HE.out,strsV_snoc,List.length_append];exact hown'
     go_wp2
     go_roundw
     case rel=>exact ⟨k+1,by go_num,by omega,ho2,hb2⟩
     case measure=>simp[RowKit.intOf];omega
  ·have hk':k=F.length:=by omega
   subst hk'
   rw[List.take_of_length_le (Nat.le_refl _)] at hown
   have hge:(F.length:Int)≤F.length:=Int.le_refl _
   have HR:=hQ (HC.out wr _ hbw (row_of_own hown))
   obtain ⟨oa,oc,rfl⟩:=own_slice hown
   have HBW:=hQ hbw
   clear hbw hown
   go_wp2_with (first
    |(go_at_call 17;refine HR.out.mono ?_;rintro e wz ⟨rfl,hbz⟩;have HZ:=hQ hbz;clear hbz)
    |go_in)
   go_ret2
   exact ⟨rfl,HBW.out.trans (HZ.out.mono HBW.out.size)⟩
end Go.Proofs.YtihcgekdnljahaaGreatDoor
end
