/- Law 54, DefragCounts: a part of the proof. -/
import Derived.Shelf.Strings.Repeat
import Derived.Shelf.Slices.Equal
import Derived.KernelRfl
import Derived.Test.YtihcgekdnljahaaGreatDoorProg
import Derived.WalkKit
import Derived.WalkSpells
import Derived.WalkLawsBesides
import Derived.Lib.Strings
import Derived.Lib.Hide
import Derived.Laws.IdiomStrings
import Derived.Laws.AppendOwn
import Derived.OwnWalk
import Derived.Laws.BitsAllLaws
section
namespace Go.Proofs
open Go.Shelf
def Tryz.lays105_ren:Go.Shelf.Ren:=⟨fun|105=>424|212=>587|99=>588|165=>589|166=>527|170=>590|169=>528|263=>702|264=>703|206=>704|240=>668|241=>705|276=>749|277=>777|n=>n,fun|9=>9|3=>3|4=>4|20=>20|0=>0|46=>515|109=>677|5=>5|72=>637|76=>640|51=>624|146=>737|53=>626|148=>739|70=>635|37=>487|75=>639|127=>721|164=>766|80=>191|n=>n,fun|n=>n⟩
theorem Tryz.lays105:Go.Proofs.Lays.n105 Tryz.prog Tryz.lays105_ren:= {
 mixed:=by kernel_rfl
 f99:=Tryz.func588.trans (congrArg some (by kernel_rfl))
 f105:=Tryz.func424.trans (congrArg some (by kernel_rfl))
 f165:=Tryz.func589.trans (congrArg some (by kernel_rfl))
 f166:=Tryz.func527.trans (congrArg some (by kernel_rfl))
 f169:=Tryz.func528.trans (congrArg some (by kernel_rfl))
 f170:=Tryz.func590.trans (congrArg some (by kernel_rfl))
 f206:=Tryz.func704.trans (congrArg some (by kernel_rfl))
 f212:=Tryz.func587.trans (congrArg some (by kernel_rfl))
 f240:=Tryz.func668.trans (congrArg some (by kernel_rfl))
 f241:=Tryz.func705.trans (congrArg some (by kernel_rfl))
 f263:=Tryz.func702.trans (congrArg some (by kernel_rfl))
 f264:=Tryz.func703.trans (congrArg some (by kernel_rfl))
 f276:=Tryz.func749.trans (congrArg some (by kernel_rfl))
 f277:=Tryz.func777.trans (congrArg some (by kernel_rfl))
 t0:=Tryz.underlying0
 a0:=Tryz.isAgg0
 z0:=Tryz.sizeOf0
 v0:=Tryz.zeroValue0
 t3:=Tryz.underlying3
 a3:=Tryz.isAgg3
 z3:=Tryz.sizeOf3
 v3:=Tryz.zeroValue3
 t4:=Tryz.underlying4
 a4:=Tryz.isAgg4
 z4:=Tryz.sizeOf4
 v4:=Tryz.zeroValue4
 t5:=Tryz.underlying5
 a5:=Tryz.isAgg5
 z5:=Tryz.sizeOf5
 v5:=Tryz.zeroValue5
 t9:=Tryz.underlying9
 a9:=Tryz.isAgg9
 z9:=Tryz.sizeOf9
 v9:=Tryz.zeroValue9
 t20:=Tryz.underlying20
 a20:=Tryz.isAgg20
 z20:=Tryz.sizeOf20
 v20:=Tryz.zeroValue20
 t37:=Tryz.underlying487
 a37:=Tryz.isAgg487
 z37:=Tryz.sizeOf487
 v37:=Tryz.zeroValue487
 t46:=Tryz.underlying515
 a46:=Tryz.isAgg515
 z46:=Tryz.sizeOf515
 v46:=Tryz.zeroValue515
 t51:=Tryz.underlying624
 a51:=Tryz.isAgg624
 z51:=Tryz.sizeOf624
 v51:=Tryz.zeroValue624
 t53:=Tryz.underlying626
 a53:=Tryz.isAgg626
 z53:=Tryz.sizeOf626
 v53:=Tryz.zeroValue626
 t70:=Tryz.underlying635
 a70:=Tryz.isAgg635
 z70:=Tryz.sizeOf635
 v70:=Tryz.zeroValue635
 t72:=Tryz.underlying637
 a72:=Tryz.isAgg637
 z72:=Tryz.sizeOf637
 v72:=Tryz.zeroValue637
 t75:=Tryz.underlying639
 a75:=Tryz.isAgg639
 z75:=Tryz.sizeOf639
 v75:=Tryz.zeroValue639
 t76:=Tryz.underlying640
 a76:=Tryz.isAgg640
 z76:=Tryz.sizeOf640
 v76:=Tryz.zeroValue640
 t109:=Tryz.underlying677
 a109:=Tryz.isAgg677
 z109:=Tryz.sizeOf677
 v109:=Tryz.zeroValue677
 t127:=Tryz.underlying721
 a127:=Tryz.isAgg721
 z127:=Tryz.sizeOf721
 v127:=Tryz.zeroValue721
 t146:=Tryz.underlying737
 a146:=Tryz.isAgg737
 z146:=Tryz.sizeOf737
 v146:=Tryz.zeroValue737
 t148:=Tryz.underlying739
 a148:=Tryz.isAgg739
 z148:=Tryz.sizeOf739
 v148:=Tryz.zeroValue739
 t164:=Tryz.underlying766
 a164:=Tryz.isAgg766
 z164:=Tryz.sizeOf766
 v164:=Tryz.zeroValue766}
theorem Tryz.Builder_Extra_105:Builder.Extra Tryz.prog Tryz.lays105_ren:= {
 sizeBuilder:=by kernel_rfl
 liesBuilder:=by kernel_rfl
 t5:=Tryz.underlying5
 a5:=Tryz.isAgg5
 z5:=Tryz.sizeOf5
 v5:=Tryz.zeroValue5
 infoByte:=by kernel_rfl
 cellsByte:=by kernel_rfl
 sizeByte:=by kernel_rfl
 neB5:=by decide}
open Go.RowKit Go.Lib in
theorem Tryz.strings_Repeat(s:ByteArray)(c:Nat)(w:World)(hc:c≤9223372036854775807)(hlen:s.size*c≤140737488355328):
 Calls Tryz.prog 424 #[.string s, .int .i64 c] w fun e w'=>e= .returned (.string ⟨(Lib.repeatL s.data.toList c).toArray⟩)∧Below w.heap.size w w':=Any.strings_Repeat Tryz.lays105 Tryz.Builder_Extra_105 s c w hc hlen
def Tryz.lays193_ren:Go.Shelf.Ren:=⟨fun|193=>7|n=>n,fun|31=>28|9=>9|4=>4|3=>3|0=>0|n=>n,fun|n=>n⟩
theorem Tryz.lays193:Go.Proofs.Lays.n193 Tryz.prog Tryz.lays193_ren:= {
 mixed:=by kernel_rfl
 f193:=Tryz.func7.trans (congrArg some (by kernel_rfl))
 t0:=Tryz.underlying0
 a0:=Tryz.isAgg0
 z0:=Tryz.sizeOf0
 v0:=Tryz.zeroValue0
 t3:=Tryz.underlying3
 a3:=Tryz.isAgg3
 z3:=Tryz.sizeOf3
 v3:=Tryz.zeroValue3
 t4:=Tryz.underlying4
 a4:=Tryz.isAgg4
 z4:=Tryz.sizeOf4
 v4:=Tryz.zeroValue4
 t9:=Tryz.underlying9
 a9:=Tryz.isAgg9
 z9:=Tryz.sizeOf9
 v9:=Tryz.zeroValue9
 t31:=Tryz.underlying28
 a31:=Tryz.isAgg28
 z31:=Tryz.sizeOf28
 v31:=Tryz.zeroValue28}
open Go.RowKit Go.Lib in
theorem Tryz.slices_Equal_string(b1 o1 n c b2 o2 m d:Nat)(xs ys:List ByteArray)(w:World)(hx:n≤xs.length)(hy:m≤ys.length)(hbig:n≤9223372036854775807)(hbig2:m≤9223372036854775807)(hc1: ∀j,j<xs.length→w.cell? ⟨b1,o1+j,none⟩=some (.string (xs.getD j ByteArray.empty)))(hc2: ∀j,j<ys.length→w.cell? ⟨b2,o2+j,none⟩=some (.string (ys.getD j ByteArray.empty))):
 Calls Tryz.prog 7 #[.slice (some ⟨b1,o1,none⟩) n c, .slice (some ⟨b2,o2,none⟩) m d] w fun e w'=>e= .returned (.bool (decide (xs.take n=ys.take m)))∧ ∃q,w'=w.drewN q:=Any.slices_Equal_string Tryz.lays193 b1 o1 n c b2 o2 m d xs ys w hx hy hbig hbig2 hc1 hc2
open Go.RowKit Go.Lib in
theorem Tryz.slices_Equal_string_empty(a1 a2:Option Addr)(c m d:Nat)(w:World)(hbig2:m≤9223372036854775807):
 Calls Tryz.prog 7 #[.slice a1 0 c, .slice a2 m d] w fun e w'=>e= .returned (.bool (decide (m=0)))∧w'=w:=Any.slices_Equal_string_empty Tryz.lays193 a1 a2 c m d w hbig2
end Go.Proofs
end
section
namespace Go.Proofs.YtihcgekdnljahaaGreatDoor
open Go.RowKit
set_option maxRecDepth 1000000
set_option maxHeartbeats 1600000
theorem new_one(W:World)(g:Nat)(v:Value)(e:TypeId)(h:g=W.heap.size):(W.alloc (.cells #[v] e)).cell? (({block:=g,off:=0}:Addr).add 0)=some v:=by
 subst h
 show (W.alloc (.cells #[v] e)).cell? ⟨W.heap.size,0,none⟩=some v
 rw[World.cell?_alloc_at _ _ _ _ rfl]
 rfl
def bytesV(l:List UInt8):List Value:=l.map fun (b:UInt8)=> .int .u8 (b.toNat:Int)
theorem bytesV_snoc(l:List UInt8)(b:UInt8):bytesV (l++[b])=bytesV l++[.int .u8 (b.toNat:Int)]:=by simp[bytesV]
theorem info_byte:(Tryz.prog.info? 5).map (fun i=>(i.zero,i.size,i.bytes))=some (some (.int .u8 0),1,1):=by kernel_rfl
theorem conv_own{w:World}{base:Nat}{v:Value}(l:List UInt8)(n:Nat)(h:w.ownsRow base 5 1 v n (bytesV l)):Sem.run Tryz.prog (convert 487 9 v) w= .ok (.string ⟨l.toArray⟩) w:=by
 have hn:l.length=n:=by have:=h.1;rw[bytesV,List.length_map,Nat.mul_one] at this;exact this
 subst hn
 rcases h.2 with ⟨rfl,h2⟩|⟨g,cap,cur,rfl,_⟩
 ·have e:l=[]:=List.length_eq_zero_iff.1 h2
  subst e
  rw[show Sem.run Tryz.prog (convert 487 9 (.slice none 0 0)) w=Sem.run Tryz.prog (Conv.bytesToString (.slice none 0 0)) w from run_convert_bytes_string w _ _ 5 none 0 0 Tryz.underlying487 Tryz.underlying5 Tryz.underlying9]
  rfl
 ·refine run_convert_bytes_back w _ _ 5 _ _ l Tryz.underlying487 Tryz.underlying5 Tryz.underlying9 ?_
  intro j hj
  exact h.cells rfl j _ (by rw[bytesV,List.getElem?_map,List.getElem?_eq_getElem hj];rfl)
theorem byte_of(n:Nat)(h:n<256):Value.int .u8 (n:Int)= .int .u8 ((UInt8.ofNat n).toNat:Int):=by congr;simp;omega
def ReRel(b c:Nat)(w:World)(out i:Value)(wr:World):Prop:= ∃k:Nat,i= .int .i64 k∧k≤c∧wr.ownsRow w.heap.size 5 1 out k (bytesV (List.replicate k (UInt8.ofNat b)))∧Below w.heap.size w wr
theorem r_repeat(b c:Nat)(w:World)(hb:b<256)(hc:c≤1000000):
 Calls Tryz.prog 204 #[.int .u8 (b:Nat), .int .i64 (c:Nat)] w fun e w'=>e= .returned (.string ⟨(List.replicate c (UInt8.ofNat b)).toArray⟩)∧Below w.heap.size w w':=by
 obtain ⟨i0,hi,hz0,hz1,hz2⟩:=info_parts info_byte
 have HB:=Lib.hid (byte_of b hb)
 go_enter Tryz.func204,Tryz.ntmps204
 go_wp2
 go_loopw [5,6] (fun out i wr=>ReRel b c w out i wr) (fun _ i _=>c-(intOf i).toNat)
 case atStart=>exact ⟨0,rfl,Nat.zero_le _,World.ownsRow_lit _ _ 0 (Nat.le_refl _) (by decide) rfl,(Below.refl _ _).alloc (Nat.le_refl _) _⟩
 case round=>
  obtain ⟨k,rfl,hk,hown,hbw⟩:=hrel
  by_cases hlt:k<c
  ·have hlt':(k:Int)<(c:Int):=by omega
   go_wp2_with (first
    |(at_builtin;refine wpList_append_own _ rfl _ _ 487 rfl w.heap.size 5 i0 (.int .u8 0) 1 1 Tryz.underlying487 hi hz0 hz1 hz2 rfl (by decide) _ _ _ rfl (hown.alloc _) ⟨wr.heap.size,0,none⟩ 1 1 [.int .u8 (b:Int)] rfl rfl ?_ ?_ ?_ ?_ ?_ ?_)
    |go_in)
   ·intro j u hj
    match j,hj with
    |0,hj=>simp at hj;subst hj;exact new_one _ _ _ _ rfl
   ·intro u hu;simp at hu;subst hu;rfl
   ·unfold maxLen;omega
   ·omega
   ·exact (hbw.alloc hbw.size _).size
   ·intro v' w2 hown' hgrow _
    have hb2:=(hbw.alloc hbw.size _).grown hgrow (hbw.alloc hbw.size _).size (fun j hj=>(hown.lt j hj).1)
    rw[HB.out, ←bytesV_snoc, ←List.replicate_succ'] at hown'
    go_wp2
    go_roundw
    case rel=>exact ⟨k+1,by go_num,by omega,hown',hb2⟩
    case measure=>simp[intOf];omega
  ·have hk':k=c:=by omega
   subst hk'
   have hconv:=conv_own _ k hown
   go_wp2
   go_ret
   exact ⟨rfl,hbw⟩
end Go.Proofs.YtihcgekdnljahaaGreatDoor
end
section
namespace Go.Proofs.YtihcgekdnljahaaGreatDoor
def cbit(c:Nat):Nat:=if c / 32768=1 then (c % 32768*2) ^^^ 4129 else c % 32768*2
def cbits:Nat→Nat→Nat
 |0,c=>c
 |k+1,c=>cbit (cbits k c)
def cbyte(c:Nat)(b:UInt8):Nat:=cbits 8 (c ^^^ (b.toNat*256))
def crcOf(l:List UInt8):Nat:=l.foldl cbyte 0
def vbit(v:BitVec 16):BitVec 16:=(v <<< 1) ^^^ (if v.msb then 4129#16 else 0#16)
theorem cbit_vbit(v:BitVec 16):cbit v.toNat=(vbit v).toNat:=by
 unfold cbit vbit
 have hv:=v.isLt
 by_cases h:v.toNat / 32768=1
 ·have hm:v.msb=true:=by rw[BitVec.msb_eq_decide];simp;omega
  rw[if_pos h,hm]
  simp[BitVec.toNat_xor,BitVec.toNat_shiftLeft,Nat.shiftLeft_eq]
  congr 1
  omega
 ·have hm:v.msb=false:=by rw[BitVec.msb_eq_decide];simp;omega
  rw[if_neg h,hm]
  simp[BitVec.toNat_shiftLeft,Nat.shiftLeft_eq]
  omega
theorem cbit_lt(c:Nat)(h:c<65536):cbit c<65536:=by
 have e:c=(BitVec.ofNat 16 c).toNat:=by simp;omega
 rw[e,cbit_vbit]
 exact (vbit _).isLt
theorem cbits_lt(k c:Nat)(h:c<65536):cbits k c<65536:=by
 induction k with
 |zero=>exact h
 |succ k ih=>exact cbit_lt _ ih
theorem xor_lt16{a b:Nat}(ha:a<65536)(hb:b<65536):a ^^^ b<65536:=Nat.xor_lt_two_pow (n:=16) ha hb
theorem cbyte_lt(c:Nat)(b:UInt8)(hc:c<65536):cbyte c b<65536:=cbits_lt _ _ (xor_lt16 hc (by have:=b.toNat_lt;omega))
def nb(l:List UInt8)(i:Nat):Nat:=(l.getD i 0).toNat
def num(l:List UInt8)(i:Nat):Nat→Nat
 |0=>0
 |n+1=>nb l i+256*num l (i+1) n
def sum8(l:List UInt8):Nat:=l.foldl (fun n c=>(n+c.toNat) % 256) 0
theorem sum8_snoc(l:List UInt8)(c:UInt8):sum8 (l++[c])=(sum8 l+c.toNat) % 256:=by simp[sum8]
theorem sum8_lt(l:List UInt8):sum8 l<256:=by
 rcases List.eq_nil_or_concat l with rfl|⟨l',c,rfl⟩
 ·decide
 ·rw[List.concat_eq_append,sum8_snoc];omega
theorem crcOf_snoc(l:List UInt8)(c:UInt8):crcOf (l++[c])=cbyte (crcOf l) c:=by simp[crcOf]
theorem crcOf_lt(l:List UInt8):crcOf l<65536:=by
 have h: ∀(l:List UInt8) (c:Nat),c<65536→l.foldl cbyte c<65536:=fun l=>by
  induction l with
  |nil=>exact fun c hc=>hc
  |cons b l ih=>exact fun c hc=>ih _ (cbyte_lt c b hc)
 exact h l 0 (by omega)
def enc(n:Nat):List UInt8:=
 if n<128 then [UInt8.ofNat n] else if n<2048 then [UInt8.ofNat (192+n / 64),UInt8.ofNat (128+n % 64)] else [UInt8.ofNat (224+n / 4096),UInt8.ofNat (128+n / 64 % 64),UInt8.ofNat (128+n % 64)]
def encs(l:List Nat):List UInt8:=l.flatMap enc
structure FidS where
 cs:List Nat
 block:Nat
 part:Nat
 unique:Nat
 c:Nat
def FidS.name(f:FidS):List UInt8:=encs f.cs
def FidS.directory(f:FidS):Bool:=decide (f.c / 2 % 2=1)
def FidS.parent(f:FidS):Bool:=decide (f.c / 8 % 2=1)
def FidS.entry(f:FidS):Bool:=if f.parent then f.directory&&f.cs.isEmpty else !f.cs.isEmpty
end Go.Proofs.YtihcgekdnljahaaGreatDoor
end
section
namespace Go.Proofs.YtihcgekdnljahaaGreatDoor
open Go.RowKit
theorem ret_int{k:IntKind}{a b:Int}(h:a=b):Ending.returned (.int k a)= .returned (.int k b):=by rw[h]
theorem take_snoc(s:ByteArray)(k:Nat)(h:k<s.size):s.data.toList.take (k+1)=s.data.toList.take k++[s[k]]:=by
 rw[List.take_succ_eq_append_getElem (by simpa using h)];rfl
set_option maxHeartbeats 400000 in
theorem r_sum8(s:ByteArray)(w:World)(hs:s.size≤65536):
 Calls Tryz.prog 642 #[.string s] w fun e w'=>e= .returned (.int .u8 (sum8 s.data.toList))∧w'=w:=by
 go_enter Tryz.func642,Tryz.ntmps642
 go_wp2
 go_loop [3,4] (fun n i=> ∃k:Nat,k≤s.size∧i= .int .i64 k∧n= .int .i64 (sum8 (s.data.toList.take k))) (fun _ i=>s.size-(intOf i).toNat)
 case atStart=>exact ⟨0,Nat.zero_le _,rfl,rfl⟩
 case round=>
  obtain ⟨k,hk,rfl,rfl⟩:=hrel
  have hl:=sum8_lt (s.data.toList.take k)
  by_cases hlt:k<s.size
  ·have hb:s[k].toNat<256:=UInt8.toNat_lt _
   have HS:Hid (((sum8 (s.data.toList.take (k+1)):Nat):Int)=((sum8 (s.data.toList.take k):Nat)+(s[k].toNat:Int)) % 256):=by
    show _=_
    rw[take_snoc s k hlt,sum8_snoc];simp
   generalize sum8 (s.data.toList.take k)=q at*
   go_wp2
   go_round
   case rel=>exact ⟨k+1,by omega,by go_num,by rw[HS.out]⟩
   case measure=>simp[intOf];omega
  ·have hkl:k=s.size:=by omega
   subst hkl
   go_wp2
   go_ret
   exact ⟨ret_int (by rw[List.take_of_length_le (by simp)]),rfl⟩
set_option maxHeartbeats 800000 in
theorem r_crc(s:ByteArray)(w:World)(hs:s.size≤65536):
 Calls Tryz.prog 643 #[.int .u16 0, .string s] w fun e w'=>e= .returned (.int .u16 (crcOf s.data.toList))∧w'=w:=by
 go_enter Tryz.func643,Tryz.ntmps643
 go_wp2
 go_loop [0,5] (fun c i=> ∃k:Nat,k≤s.size∧i= .int .i64 k∧c= .int .u16 (crcOf (s.data.toList.take k))) (fun _ i=>s.size-(intOf i).toNat)
 case atStart=>exact ⟨0,Nat.zero_le _,rfl,rfl⟩
 case round=>
  obtain ⟨k,hk,rfl,rfl⟩:=hrel
  have hl:=crcOf_lt (s.data.toList.take k)
  by_cases hlt:k<s.size
  ·have hb:s[k].toNat<256:=UInt8.toNat_lt _
   have HS:Hid (crcOf (s.data.toList.take (k+1))=cbits 8 (crcOf (s.data.toList.take k) ^^^ (s[k].toNat*256))):=by
    rw[take_snoc s k hlt,crcOf_snoc];rfl
   generalize crcOf (s.data.toList.take k)=q at*
   have HX:Hid (bits .xor .u16 (q:Int) ((s[k].toNat:Int)*256)=((q ^^^ (s[k].toNat*256):Nat):Int)):=by
    show _=_
    rw[←u16_xor_nat q (s[k].toNat*256) hl (by omega)]
    rfl
   have hx:q ^^^ (s[k].toNat*256)<65536:=xor_lt16 hl (by omega)
   generalize q ^^^ (s[k].toNat*256)=x at*
   go_wp2
   go_loop [0,6] (fun c j=> ∃m:Nat,m≤8∧j= .int .i64 m∧c= .int .u16 (cbits m x)) (fun _ j=>8-(intOf j).toNat)
   case atStart=>exact ⟨0,Nat.zero_le _,rfl,by rw[HX.out];rfl⟩
   case round=>
    obtain ⟨m,hm,rfl,rfl⟩:=hrel
    have hy:=cbits_lt m x hx
    by_cases hm8:m<8
    ·have HM:Hid (cbits (m+1) x=cbit (cbits m x)):=rfl
     generalize cbits m x=y at*
     by_cases h1:32768≤y
     ·have HC:Hid (bits .xor .u16 ((y:Int) % 32768*2) 4129=((cbit y:Nat):Int)):=by
       show _=_
       rw[show ((y:Int) % 32768*2)=((y % 32768*2:Nat):Int) by omega,show (4129:Int)=((4129:Nat):Int) from rfl,u16_xor_nat _ _ (by omega) (by omega)]
       rw[cbit,if_pos (by omega)]
      go_wp2
      go_round
      case rel=>exact ⟨m+1,by omega,by go_num,by rw[HM.out, ←HC.out]⟩
      case measure=>simp[intOf];omega
     ·have HC:Hid (((y:Int) % 32768*2)=((cbit y:Nat):Int)):=by
       show _=_
       rw[cbit,if_neg (by omega)];omega
      go_wp2
      go_round
      case rel=>exact ⟨m+1,by omega,by go_num,by rw[HM.out, ←HC.out]⟩
      case measure=>simp[intOf];omega
    ·have hm':m=8:=by omega
     subst hm'
     go_wp2
     go_round
     case rel=>exact ⟨k+1,by omega,by go_num,by rw[HS.out]⟩
     case measure=>simp[intOf];omega
  ·have hkl:k=s.size:=by omega
   subst hkl
   go_wp2
   go_ret
   exact ⟨ret_int (by rw[List.take_of_length_le (by simp)]),rfl⟩
end Go.Proofs.YtihcgekdnljahaaGreatDoor
end
