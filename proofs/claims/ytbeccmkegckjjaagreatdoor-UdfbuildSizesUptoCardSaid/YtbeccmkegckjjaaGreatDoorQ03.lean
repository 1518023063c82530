/- Law 43, UdfbuildSizes: a part of the proof. -/
import Derived.WalkKit
import Derived.Laws.BitsAllLaws
import Derived.Test.YtbeccmkegckjjaaGreatDoorProg
import Derived.WalkSpells
import Derived.WalkLawsBesides
import Derived.Lib.Strings
import Derived.Lib.Hide
import Derived.Deep.QuietTactic
import Derived.BigQuiet
import Derived.Deep.DeepCutAuto
import Derived.Laws.AppendOwn
import Derived.Laws.Rows
import Derived.Laws.CopyRow
import Derived.Laws.CopyOwn
import Derived.Deep.WholeRow
import Derived.Laws.IdiomStrings
import Derived.Deep.RegionWith
import Derived.Test.YtbeccmkegckjjaaGreatDoorQ02
import Derived.OwnWalk
set_option linter.unusedVariables false
set_option linter.ambiguousOpen false
set_option linter.unusedSimpArgs false
section
namespace Go.Proofs.YtbeccmkegckjjaaGreatDoor
open Go.RowKit
set_option maxRecDepth 1000000
set_option maxHeartbeats 1600000
theorem hQ{p:Prop}(h:p):Go.RowKit.Hid p:=Go.Lib.hid h
def nb(l:List UInt8)(i:Nat):Nat:=(l.getD i 0).toNat
def num(l:List UInt8)(i:Nat):Nat→Nat
 |0=>0
 |n+1=>nb l i+256*num l (i+1) n
theorem num1(l:List UInt8)(i:Nat):num l i 1=nb l i:=by simp[num]
def sum8(l:List UInt8):Nat:=l.foldl (fun n c=>(n+c.toNat) % 256) 0
theorem sum8_snoc(l:List UInt8)(c:UInt8):sum8 (l++[c])=(sum8 l+c.toNat) % 256:=by simp[sum8]
theorem sum8_lt(l:List UInt8):sum8 l<256:=by
 rcases List.eq_nil_or_concat l with rfl|⟨l',c,rfl⟩
 ·decide
 ·rw[List.concat_eq_append,sum8_snoc];omega
def isChar(n:Nat):Bool:=decide (32≤n)&&(decide (n≤65533)&&(decide (n<55296)||decide (57343<n)))
def enc(n:Nat):List UInt8:=
 if n<128 then [UInt8.ofNat n] else if n<2048 then [UInt8.ofNat (192+n / 64),UInt8.ofNat (128+n % 64)] else [UInt8.ofNat (224+n / 4096),UInt8.ofNat (128+n / 64 % 64),UInt8.ofNat (128+n % 64)]
def encs(l:List Nat):List UInt8:=l.flatMap enc
structure FidS where
 cs:List Nat
 block:Nat
 part:Nat
 unique:Nat
 c:Nat
def FidS.name(f:FidS):List UInt8:=encs f.cs
def FidS.hidden(f:FidS):Bool:=decide (f.c % 2=1)
def FidS.directory(f:FidS):Bool:=decide (f.c / 2 % 2=1)
def FidS.parent(f:FidS):Bool:=decide (f.c / 8 % 2=1)
def rounded(n:Nat):Nat:=(n+3) / 4*4
def FidS.entry(f:FidS):Bool:=if f.parent then f.directory&&f.cs.isEmpty else !f.cs.isEmpty
theorem ret_int{k:IntKind}{a b:Int}(h:a=b):Ending.returned (.int k a)= .returned (.int k b):=by rw[h]
theorem take_snoc(s:ByteArray)(k:Nat)(h:k<s.size):s.data.toList.take (k+1)=s.data.toList.take k++[s[k]]:=by
 rw[List.take_succ_eq_append_getElem (by simpa using h)];rfl
theorem nb_get(s:ByteArray)(k:Nat)(h:k<s.size):s[k].toNat=nb s.data.toList k:=by
 have h':k<s.data.toList.length:=by simpa using h
 rw[nb,List.getD,List.getElem?_eq_getElem h']
 rfl
theorem len_data(s:ByteArray):s.data.toList.length=s.size:=by simp
theorem cut_data(s:ByteArray)(a b:Nat):(s.extract a b).data.toList=(s.data.toList.drop a).take (b-a):=Lib.extract_data s a b
theorem info_int:(Tryz.prog.info? 3).map (fun i=>(i.zero,i.size,i.bytes))=some (some (.int .i64 0),1,8):=by kernel_rfl
theorem new_one(W:World)(g:Nat)(v:Value)(e:TypeId)(h:g=W.heap.size):(W.alloc (.cells #[v] e)).cell? (({block:=g,off:=0}:Addr).add 0)=some v:=by
 subst h
 show (W.alloc (.cells #[v] e)).cell? ⟨W.heap.size,0,none⟩=some v
 rw[World.cell?_alloc_at _ _ _ _ rfl]
 rfl
def FRel(k:Nat)(w:World)(ok:Bool)(v:Value)(wx:World):Prop:= ∃(n:Nat) (xs:List Value),wx.ownsRow w.heap.size 3 1 v n xs∧n≤k∧decide (n=0)=ok∧Below w.heap.size w wx
theorem below_drewN{B:Nat}{a w:World}(h:Below B a w)(n:Nat):Below B a (w.drewN n):=⟨h.os,h.tape,h.output,h.size,h.block⟩
theorem FRel.push{k:Nat}{w W w':World}{v v':Value}{n:Nat}{xs ys:List Value}(hb:Below w.heap.size w W)(hown:W.ownsRow w.heap.size 3 1 v n xs)(hn:n≤k)(hown':w'.ownsRow w.heap.size 3 1 v' (n+1) ys)
 (hg:W.grownBy w' v.ownBlock):FRel (k+1) w false v' w':=⟨n+1,ys,hown',by omega,by simp,hb.grown hg hb.size (fun j hj=>(hown.lt j hj).1)⟩
theorem FRel.form{k:Nat}{w wx:World}{ok:Bool}{v:Value}(h:FRel k w ok v wx): ∃(a:Option Addr) (n c:Nat),v= .slice a n c∧decide (n=0)=ok∧n≤k:=by
 obtain ⟨n,xs,h1,hn,ho,_⟩:=h
 obtain ⟨_,h2⟩:=h1
 rcases h2 with ⟨rfl,rfl⟩|⟨g,cap,cur,rfl,_⟩
 ·exact ⟨none,0,0,rfl,ho,hn⟩
 ·exact ⟨_,n,cap,rfl,ho,hn⟩
theorem FRel.below{k:Nat}{w wx:World}{ok:Bool}{v:Value}(h:FRel k w ok v wx):Below w.heap.size w wx:=h.choose_spec.choose_spec.2.2.2
set_option maxHeartbeats 400000 in
set_option maxHeartbeats 400000 in
theorem wpList_store_row{P:Program}{w:World}{ops:Array Oper}{rest:List Oper}{o:Oper}{a:Act}{Q:Exit→Act→World→Prop}(hgd:o.guard=none)(p x:Operand)(ty:TypeId)(ho:o.op= .store ty p x)
 (g:Nat) (t:TypeId) (old vs:Array Value) (hp:a.eval p= .pointer (some ⟨g,0,none⟩)) (hx:a.eval x= .agg vs) (hg:w.heap[g]? =some (.cells old t (0,0))) (n:Nat) (hi:(P.info? ty).map (·.size)=some n)
 (hs:old.size=n) (hv:vs.size=n) (h1:vs.all (·.oneCell')=true) (h:wpList P ops Q rest (a.put o.dst undef) (w.setRow g vs)):wpList P ops Q (o::rest) a w:=
 wpList_plain hgd fun K hK=>by
  have hr:=run_storeVar_row (P:=P) w g t ty old vs hg (by rw[hv];exact hi) (by rw[hv];exact hs) h1
  unfold Oper.wp execOp
  simp only[ho,Instr.storeAt,Instr.sureAddr,Sem.run_bind,Sem.run_pure,Result.andThen_ok,hp,hx,hr]
  exact hK _ _ h
theorem wpList_load_row{P:Program}{w:World}{ops:Array Oper}{rest:List Oper}{o:Oper}{a:Act}{Q:Exit→Act→World→Prop}(hgd:o.guard=none)(p:Operand)(ty:TypeId)(ho:o.op= .load ty p)
 (g:Nat) (t:TypeId) (vs:Array Value) (d:TypeDesc) (hp:a.eval p= .pointer (some ⟨g,0,none⟩)) (hg:w.heap[g]? =some (.cells vs t (0,0))) (hu:P.underlying ty=some d)
 (hd:(match d with| .struct _| .array _ _=>true|_=>false)=true) (n:Nat) (hi:(P.info? ty).map (·.size)=some n) (hv:vs.size=n) (h:wpList P ops Q rest (a.put o.dst (.agg vs)) w):wpList P ops Q (o::rest) a w:=
 wpList_plain hgd fun K hK=>by
  have hr:=run_loadVar_row (P:=P) w g t ty vs (0,0) d hg hu hd (by rw[hv];exact hi)
  unfold Oper.wp execOp
  simp only[ho,Instr.loadAt,Instr.sureAddr,Sem.run_bind,Sem.run_pure,Result.andThen_ok,hp,hr]
  exact hK _ _ h
set_option maxHeartbeats 400000 in
theorem p_sum8(s:ByteArray)(w:World)(hs:s.size≤65536):
 Calls Tryz.prog 277 #[.string s] w fun e w'=>e= .returned (.int .u8 (sum8 s.data.toList))∧w'=w:=by
 go_enter Tryz.func277,Tryz.ntmps277
 go_wp2
 go_loop [3,7] (fun n i=> ∃k:Nat,k≤s.size∧i= .int .i64 k∧n= .int .u8 (sum8 (s.data.toList.take k))) (fun _ i=>s.size-(intOf i).toNat)
 case atStart=>exact ⟨0,Nat.zero_le _,rfl,rfl⟩
 case round=>
  obtain ⟨k,hk,rfl,rfl⟩:=hrel
  have hl:=sum8_lt (s.data.toList.take k)
  by_cases hlt:k<s.size
  ·have hb:s[k].toNat<256:=UInt8.toNat_lt _
   have HS:Hid (((sum8 (s.data.toList.take (k+1)):Nat):Int)=((sum8 (s.data.toList.take k):Nat)+(s[k].toNat:Int)) % 256):=by
    show _=_
    rw[take_snoc s k hlt,sum8_snoc];simp
   generalize sum8 (s.data.toList.take k)=q at*
   go_wp2
   go_round
   case rel=>exact ⟨k+1,by omega,by go_num,by rw[HS.out]⟩
   case measure=>simp[intOf];omega
  ·have hkl:k=s.size:=by omega
   subst hkl
   go_wp2
   go_ret
   exact ⟨ret_int (by rw[List.take_of_length_le (by simp)]),rfl⟩
theorem or_zero(n:Nat)(h:n<256):bits .or .u64 0 (n:Int)=(n:Int):=by
 have:=u64_or_nat 0 n (by omega) (by omega)
 simpa using this
theorem ret_two{a b:Int}(h:a=b):Ending.returned (.tuple #[.int .i64 a, .int .i64 0])= .returned (.tuple #[.int .i64 b, .int .i64 0]):=by rw[h]
set_option maxHeartbeats 800000 in
set_option maxRecDepth 1000000 in
theorem p_rl1(s:ByteArray)(i:Nat)(w:World)(h:i+1≤s.size)(hs:s.size≤65536):
 Calls Tryz.prog 32 #[.string s, .int .i64 i, .int .i64 1] w fun e w'=>e= .returned (.tuple #[.int .i64 (num s.data.toList i 1), .int .i64 0])∧w'=w:=by
 have hb:s[i].toNat<256:=UInt8.toNat_lt _
 have HG:=hQ (nb_get s i (by omega))
 have hi1:(i:Int)≤(s.size:Int)-1:=by omega
 have hi2:decide ((i:Int)≤(s.size:Int)-1)=true:=by simp;omega
 have hO:=or_zero s[i].toNat hb
 go_enter Tryz.func32,Tryz.ntmps32
 go_wp2
 refine wp_loop_rounds 2 ?_
 rw[rounds_succ]
 go_wp2
 rw[rounds_succ]
 go_wp2
 go_ret2
 exact ⟨ret_two (by rw[num1,HG.out]),rfl⟩
theorem ret_bool'{a b:Bool}(h:a=b):Ending.returned (.bool a)= .returned (.bool b):=by rw[h]
theorem p_word(n:Nat)(w:World)(h:n<4294967296):Calls Tryz.prog 285 #[.int .i64 n] w fun e w'=>e= .returned (.bool true)∧w'=w:=by
 have h1:(n:Int)<4294967296:=by omega
 have h2:(0:Int)≤n:=by omega
 clear h
 go_enter Tryz.func285,Tryz.ntmps285
 go_wp2
 go_ret
 exact ⟨rfl,rfl⟩
theorem r_word(n:Nat)(w:World)(h:n<4294967296):Calls Tryz.prog 307 #[.int .i64 n] w fun e w'=>e= .returned (.bool true)∧w'=w:=by
 have h1:(n:Int)<4294967296:=by omega
 have h2:(0:Int)≤n:=by omega
 clear h
 go_enter Tryz.func307,Tryz.ntmps307
 go_wp2
 go_ret
 exact ⟨rfl,rfl⟩
theorem p_rounded(n:Nat)(w:World)(h:n<4294967296):Calls Tryz.prog 203 #[.int .i64 n] w fun e w'=>e= .returned (.int .i64 (rounded n:Nat))∧w'=w:=by
 go_enter Tryz.func203,Tryz.ntmps203
 go_wp2
 go_ret
 exact ⟨ret_int (by unfold rounded;omega),rfl⟩
theorem r_round(n:Nat)(w:World)(h:n<4294967296):Calls Tryz.prog 227 #[.int .i64 n] w fun e w'=>e= .returned (.int .i64 (rounded n:Nat))∧w'=w:=by
 go_enter Tryz.func227,Tryz.ntmps227
 go_wp2
 go_ret
 exact ⟨ret_int (by unfold rounded;omega),rfl⟩
theorem isChar_cases(n:Nat):(n<32∧isChar n=false)∨(65533<n∧isChar n=false)∨(32≤n∧n<55296∧isChar n=true)∨(55296≤n∧n≤57343∧isChar n=false)∨(57343<n∧n≤65533∧isChar n=true):=by
 unfold isChar
 by_cases h1:32≤n <;> by_cases h2:n≤65533 <;> by_cases h3:n<55296 <;> by_cases h4:57343<n <;> simp[h1,h2,h3,h4] <;> omega
theorem isChar_lt{n:Nat}(h:isChar n=true):n<65536:=by rcases isChar_cases n with h1|h1|h1|h1|h1 <;> simp_all <;> omega
theorem r_char17(n:Nat)(w:World):Calls Tryz.prog 399 #[.int .i64 n] w fun e w'=>e= .returned (.bool (isChar n))∧w'=w:=by
 rcases isChar_cases n with ⟨h1,h⟩|⟨h1,h⟩|⟨h1,h2,h⟩|⟨h1,h2,h⟩|⟨h1,h2,h⟩ <;> rw[h] <;> clear h
 case inr.inr.inr.inl=>
  have d1:decide ((n:Int)<55296)=false:=by simp;omega
  have d2:decide ((57343:Int)<n)=false:=by simp;omega
  go_enter Tryz.func399,Tryz.ntmps399
  go_wp2
  go_ret
  exact ⟨rfl,rfl⟩
 case inr.inr.inr.inr=>
  have d1:decide ((n:Int)<55296)=false:=by simp;omega
  have d2:decide ((57343:Int)<n)=true:=by simp;omega
  go_enter Tryz.func399,Tryz.ntmps399
  go_wp2
  go_ret
  exact ⟨rfl,rfl⟩
 all_goals
  go_enter Tryz.func399,Tryz.ntmps399
  go_wp2
  go_ret
  exact ⟨rfl,rfl⟩
theorem p_char(n:Nat)(w:World):Calls Tryz.prog 346 #[.int .i64 n] w fun e w'=>e= .returned (.bool (isChar n))∧w'=w:=by
 rcases isChar_cases n with ⟨h1,h⟩|⟨h1,h⟩|⟨h1,h2,h⟩|⟨h1,h2,h⟩|⟨h1,h2,h⟩ <;> rw[h] <;> clear h
 case inr.inr.inr.inl=>
  have d1:decide ((n:Int)<55296)=false:=by simp;omega
  have d2:decide ((57343:Int)<n)=false:=by simp;omega
  go_enter Tryz.func346,Tryz.ntmps346
  go_wp2
  go_ret
  exact ⟨rfl,rfl⟩
 case inr.inr.inr.inr=>
  have d1:decide ((n:Int)<55296)=false:=by simp;omega
  have d2:decide ((57343:Int)<n)=true:=by simp;omega
  go_enter Tryz.func346,Tryz.ntmps346
  go_wp2
  go_ret
  exact ⟨rfl,rfl⟩
 all_goals
  go_enter Tryz.func346,Tryz.ntmps346
  go_wp2
  go_ret
  exact ⟨rfl,rfl⟩
theorem conv_new(w:World)(l:List UInt8)(cs:Array Value)(n:Nat)(hn:n=l.length)(hcs:cs=(l.map fun b=>Value.int .u8 b.toNat).toArray):
 Sem.run Tryz.prog (convert 197 9 (.slice (some ⟨w.heap.size,0,none⟩) n n)) (w.alloc (.cells cs 5))= .ok (.string ⟨l.toArray⟩) (w.alloc (.cells cs 5)):=by
 subst hn hcs
 refine run_convert_bytes_back _ _ _ 5 _ _ l Tryz.underlying197 Tryz.underlying5 Tryz.underlying9 ?_
 intro j hj
 have e:(({block:=w.heap.size,off:=0}:Addr).add j)=⟨w.heap.size,j,none⟩:=by
  unfold Addr.add
  by_cases hz:j=0
  ·subst hz;rfl
  ·rw[if_neg hz];simp
 rw[e,World.cell?_alloc_at _ _ _ _ rfl]
 simp[hj]
theorem conv1(w:World)(i:Int)(h0:0≤i)(h1:i<256):
 Sem.run Tryz.prog (convert 197 9 (.slice (some ⟨w.heap.size,0,none⟩) 1 1)) (w.alloc (.cells #[.int .u8 i] 5))= .ok (.string ⟨#[UInt8.ofNat i.toNat]⟩) (w.alloc (.cells #[.int .u8 i] 5)):=
 conv_new w [UInt8.ofNat i.toNat] _ 1 rfl (by simp;omega)
theorem conv2(w:World)(i j:Int)(h0:0≤i∧i<256)(h1:0≤j∧j<256):
 Sem.run Tryz.prog (convert 197 9 (.slice (some ⟨w.heap.size,0,none⟩) 2 2)) (w.alloc (.cells #[.int .u8 i, .int .u8 j] 5))= .ok (.string ⟨#[UInt8.ofNat i.toNat,UInt8.ofNat j.toNat]⟩) (w.alloc (.cells #[.int .u8 i, .int .u8 j] 5)):=
 conv_new w [UInt8.ofNat i.toNat,UInt8.ofNat j.toNat] _ 2 rfl (by simp;omega)
theorem conv3(w:World)(i j k:Int)(h0:0≤i∧i<256)(h1:0≤j∧j<256)(h2:0≤k∧k<256):
 Sem.run Tryz.prog (convert 197 9 (.slice (some ⟨w.heap.size,0,none⟩) 3 3)) (w.alloc (.cells #[.int .u8 i, .int .u8 j, .int .u8 k] 5))= .ok (.string ⟨#[UInt8.ofNat i.toNat,UInt8.ofNat j.toNat,UInt8.ofNat k.toNat]⟩) (w.alloc (.cells #[.int .u8 i, .int .u8 j, .int .u8 k] 5)):=
 conv_new w [UInt8.ofNat i.toNat,UInt8.ofNat j.toNat,UInt8.ofNat k.toNat] _ 3 rfl (by simp;omega)
theorem ret_str{a b:ByteArray}(h:a=b):Ending.returned (.string a)= .returned (.string b):=by rw[h]
theorem r_enc(n:Nat)(w:World)(h:n<65536):Calls Tryz.prog 400 #[.int .i64 n] w fun e w'=>e= .returned (.string ⟨(enc n).toArray⟩)∧Below w.heap.size w w':=by
 have hb: ∀o,Below w.heap.size w (w.alloc o):=fun o=>(Below.refl _ _).alloc (Nat.le_refl _) o
 unfold enc
 by_cases h1:n<128
 ·rw[if_pos h1]
  have hc:=conv1 w n (by omega) (by omega)
  go_enter Tryz.func400,Tryz.ntmps400
  go_wp2
  go_ret
  exact ⟨rfl,hb _⟩
 ·rw[if_neg h1]
  have h1':(128:Int)≤n:=by omega
  clear h1
  by_cases h2:n<2048
  ·rw[if_pos h2]
   have hc:=conv2 w (192+(n:Int) / 64) (128+(n:Int) % 64) (by omega) (by omega)
   go_enter Tryz.func400,Tryz.ntmps400
   go_wp2
   go_ret
   exact ⟨ret_str (by congr 3 <;> omega),hb _⟩
  ·rw[if_neg h2]
   have hc:=conv3 w (224+(n:Int) / 4096) (128+(n:Int) / 64 % 64) (128+(n:Int) % 64) (by omega) (by omega) (by omega)
   have h2':(2048:Int)≤n:=by omega
   clear h2
   go_enter Tryz.func400,Tryz.ntmps400
   go_wp2
   go_ret
   exact ⟨ret_str (by congr 3 <;> omega),hb _⟩
theorem enc1{n:Nat}(h:n<128):enc n=[UInt8.ofNat n]:=by unfold enc;rw[if_pos h]
theorem enc2{n:Nat}(h0:128≤n)(h:n<2048):enc n=[UInt8.ofNat (192+n / 64),UInt8.ofNat (128+n % 64)]:=by unfold enc;rw[if_neg (by omega),if_pos h]
theorem enc3{n:Nat}(h:2048≤n):enc n=[UInt8.ofNat (224+n / 4096),UInt8.ofNat (128+n / 64 % 64),UInt8.ofNat (128+n % 64)]:=by unfold enc;rw[if_neg (by omega),if_neg (by omega)]
theorem enc_length(n:Nat):(enc n).length=if n<128 then 1 else if n<2048 then 2 else 3:=by unfold enc;split <;> (try split) <;> rfl
theorem get_data(s:ByteArray)(k:Nat)(h:k<s.size)(l:List UInt8)(hl:s.data.toList=l): ∃h':k<l.length,s[k]=l[k]:=by
 subst hl
 exact ⟨by simpa using h,rfl⟩
theorem str_eq{a b:ByteArray}(h:a.data.toList=b.data.toList):a=b:=by
 cases a;cases b;congr;exact Array.toList_inj.1 h
theorem own_below'{w w':World}{base:Nat}{e:TypeId}{size:Nat}{v:Value}{n:Nat}{xs:List Value}(h:w.ownsRow base e size v n xs)(hb:Below w.heap.size w w'):w'.ownsRow base e size v n xs:=by
 obtain ⟨h1,h2⟩:=h
 refine ⟨h1,?_⟩
 rcases h2 with h2|⟨g,cap,cur,e1,e2,e3,e4⟩
 ·exact .inl h2
 ·refine .inr ⟨g,cap,cur,e1,e2,?_,e4⟩
  rw[hb.block g (Array.getElem?_eq_some_iff.1 e3).1,e3]
theorem below_drew{B:Nat}{a w:World}(h:Below B a w):Below B a w.drew:=⟨h.os,h.tape,h.output,h.size,h.block⟩
theorem below_next{w wr w5:World}(h:Below w.heap.size w wr)(h5:Below wr.drew.heap.size wr.drew w5):Below w.heap.size w w5:=(below_drew h).trans (h5.mono h.size)
theorem r_first1(s:ByteArray)(c:Nat)(rest:List UInt8)(w:World)(hs:s.data.toList=enc c++rest)(hc:isChar c=true)(h1:c<128)(hz:s.size≤65536):
 Calls Tryz.prog 362 #[.string s] w fun e w'=>e= .returned (.tuple #[.int .i64 c, .int .i64 1])∧Below w.heap.size w w':=by
 have HC:=hQ (fun W:World=>r_char17 c W)
 have HE:=hQ (fun W:World=>r_enc c W (by omega))
 rw[hc] at HC
 rw[enc1 h1] at HE hs
 have hl:0<s.size:=by rw[←len_data,hs];simp
 have hb0:s[0].toNat=c:=by
  obtain ⟨_,e⟩:=get_data s 0 hl _ hs
  rw[e];simp;omega
 have hs1:(1:Int)≤s.size:=by omega
 have hi0:(0:Int)<s.size:=by omega
 have he:s.extract 0 1=⟨#[UInt8.ofNat c]⟩:=str_eq (by rw[cut_data,hs];simp)
 have hcl:c<256:=by omega
 go_enter Tryz.func362,Tryz.ntmps362
 go_wp2
 go_loopw [4] (fun i wr=>i= .int .i64 1∧Below w.heap.size w wr) (fun _ _=>0)
 case atStart=>exact ⟨rfl,Below.refl _ _⟩
 case round=>
  obtain ⟨rfl,hbw⟩:=hrel
  go_wp2
  go_region_with (first
   |(go_at_call 399;refine (HC.out _).mono ?_;rintro e w5 ⟨rfl,rfl⟩)
   |(go_at_call 400;refine (HE.out _).mono ?_;rintro e w5 ⟨rfl,hb5⟩))
  all_goals
   go_wp2
   go_ret2
   exact ⟨rfl,below_next hbw hb5⟩
theorem char_range{n:Nat}(h0:32≤n)(h1:n<55296):isChar n=true:=by unfold isChar;simp;omega
theorem size_extract(s:ByteArray)(k:Nat)(h:k≤s.size):(s.extract 0 k).size=k:=by rw[←len_data,cut_data];simp;omega
theorem size_enc(n:Nat):(⟨(enc n).toArray⟩:ByteArray).size=(enc n).length:=by rw[←len_data]
theorem str_ne{a b:ByteArray}(h:a.size≠b.size):(a.toList==b.toList)=false:=by
 rw[beq_eq_false_iff_ne,ByteArray.toList_eq,ByteArray.toList_eq]
 intro e
 exact h (by rw[←len_data, ←len_data,e])
theorem r_first2(s:ByteArray)(c:Nat)(rest:List UInt8)(w:World)(hs:s.data.toList=enc c++rest)(hc:isChar c=true)(h0:128≤c)(h1:c<2048)(hz:s.size≤65536):
 Calls Tryz.prog 362 #[.string s] w fun e w'=>e= .returned (.tuple #[.int .i64 c, .int .i64 2])∧Below w.heap.size w w':=by
 have HC:=hQ (fun W:World=>r_char17 c W)
 have HE:=hQ (fun W:World=>r_enc c W (by omega))
 rw[hc] at HC
 have hsz:=len_data s
 have he:s.extract 0 2=⟨(enc c).toArray⟩:=str_eq (by rw[cut_data,hs,enc2 h0 h1];simp)
 rw[enc2 h0 h1] at hs
 have hl:2≤s.size:=by rw[←hsz,hs];simp
 have hb0:s[0].toNat=192+c / 64:=by
  obtain ⟨_,e⟩:=get_data s 0 (by omega) _ hs
  rw[e];simp;omega
 have hb1:s[1].toNat=128+c % 64:=by
  obtain ⟨_,e⟩:=get_data s 1 (by omega) _ hs
  rw[e];simp;omega
 have HC1:=hQ (fun W:World=>r_char17 (192+c / 64) W)
 have HE1:=hQ (fun W:World=>r_enc (192+c / 64) W (by omega))
 rw[char_range (by omega) (by omega)] at HC1
 have hx1:((⟨(enc (192+c / 64)).toArray⟩:ByteArray).toList==(s.extract 0 1).toList)=false:=str_ne (by rw[size_enc,size_extract _ _ (by omega),enc2 (by omega) (by omega)];simp)
 have hs1:(2:Int)≤s.size:=by omega
 have hi0:(0:Int)<s.size:=by omega
 have hi1:(1:Int)<s.size:=by omega
 generalize (⟨(enc c).toArray⟩:ByteArray)=t2 at*
 generalize (⟨(enc (192+c / 64)).toArray⟩:ByteArray)=t1 at*
 clear hs
 have e1:((192+c / 64:Nat):Int)=192+(c:Int) / 64:=by omega
 have e2:((128+c % 64:Nat):Int)=128+(c:Int) % 64:=by omega
 have e3:(192+(c:Int) / 64-192)*64+(128+(c:Int) % 64)-128=c:=by omega
 go_enter Tryz.func362,Tryz.ntmps362
 go_wp2
 go_loopw [4] (fun i wr=>(i= .int .i64 1∨i= .int .i64 2)∧Below w.heap.size w wr) (fun i _=>3-(intOf i).toNat)
 case atStart=>exact ⟨.inl rfl,Below.refl _ _⟩
 case round=>
  obtain ⟨rfl|rfl,hbw⟩:=hrel
  ·go_wp2
   go_region_with (first
    |(go_at_call 399;refine (HC1.out _).mono ?_;rintro e w5 ⟨rfl,rfl⟩)
    |(go_at_call 400;refine (HE1.out _).mono ?_;rintro e w5 ⟨rfl,hb5⟩))
   all_goals
    go_wp2
    go_roundw
    ·exact ⟨.inr rfl,below_next hbw hb5⟩
    ·simp[intOf]
  ·go_wp2
   go_region
   go_wp2
   go_region_with (first
    |(go_at_call 399;refine (HC.out _).mono ?_;rintro e w5 ⟨rfl,rfl⟩)
    |(go_at_call 400;refine (HE.out _).mono ?_;rintro e w5 ⟨rfl,hb5⟩))
   all_goals
    go_wp2
    go_ret2
    exact ⟨rfl,below_next (below_drew hbw) hb5⟩
theorem r_first3(s:ByteArray)(c:Nat)(rest:List UInt8)(w:World)(hs:s.data.toList=enc c++rest)(hc:isChar c=true)(h0:2048≤c)(hz:s.size≤65536):
 Calls Tryz.prog 362 #[.string s] w fun e w'=>e= .returned (.tuple #[.int .i64 c, .int .i64 3])∧Below w.heap.size w w':=by
 have hcl:=isChar_lt hc
 have HC:=hQ (fun W:World=>r_char17 c W)
 have HE:=hQ (fun W:World=>r_enc c W hcl)
 rw[hc] at HC
 have hsz:=len_data s
 have he:s.extract 0 3=⟨(enc c).toArray⟩:=str_eq (by rw[cut_data,hs,enc3 h0];simp)
 rw[enc3 h0] at hs
 have hl:3≤s.size:=by rw[←hsz,hs];simp
 have hb0:s[0].toNat=224+c / 4096:=by
  obtain ⟨_,e⟩:=get_data s 0 (by omega) _ hs
  rw[e];simp;omega
 have hb1:s[1].toNat=128+c / 64 % 64:=by
  obtain ⟨_,e⟩:=get_data s 1 (by omega) _ hs
  rw[e];simp;omega
 have hb2:s[2].toNat=128+c % 64:=by
  obtain ⟨_,e⟩:=get_data s 2 (by omega) _ hs
  rw[e];simp;omega
 have HC1:=hQ (fun W:World=>r_char17 (224+c / 4096) W)
 have HE1:=hQ (fun W:World=>r_enc (224+c / 4096) W (by omega))
 rw[char_range (by omega) (by omega)] at HC1
 have hx1:((⟨(enc (224+c / 4096)).toArray⟩:ByteArray).toList==(s.extract 0 1).toList)=false:=str_ne (by rw[size_enc,size_extract _ _ (by omega),enc2 (by omega) (by omega)];simp)
 have HC2:=hQ (fun W:World=>r_char17 ((32+c / 4096)*64+c / 64 % 64) W)
 have HE2:=hQ (fun W:World=>r_enc ((32+c / 4096)*64+c / 64 % 64) W (by omega))
 rw[char_range (by omega) (by omega)] at HC2
 have hx2:((⟨(enc ((32+c / 4096)*64+c / 64 % 64)).toArray⟩:ByteArray).toList==(s.extract 0 2).toList)=false:=str_ne (by rw[size_enc,size_extract _ _ (by omega),enc3 (by omega)];simp)
 have hs1:(3:Int)≤s.size:=by omega
 have hi0:(0:Int)<s.size:=by omega
 have hi1:(1:Int)<s.size:=by omega
 have hi2:(2:Int)<s.size:=by omega
 have e1:((224+c / 4096:Nat):Int)=224+(c:Int) / 4096:=by omega
 have e3:((224+(c:Int) / 4096-192)*64+(128+(c:Int) / 64 % 64)-128)=(((32+c / 4096)*64+c / 64 % 64:Nat):Int):=by omega
 have e4:(224+(c:Int) / 4096-224)*4096+(128+(c:Int) / 64 % 64-128)*64+(128+(c:Int) % 64)-128=c:=by omega
 generalize (⟨(enc c).toArray⟩:ByteArray)=t3 at*
 generalize (⟨(enc (224+c / 4096)).toArray⟩:ByteArray)=t1 at*
 generalize (⟨(enc ((32+c / 4096)*64+c / 64 % 64)).toArray⟩:ByteArray)=t2 at*
 generalize hn2:(32+c / 4096)*64+c / 64 % 64=n2 at*
 have Hn2:=hQ hn2
 clear hs hn2
 go_enter Tryz.func362,Tryz.ntmps362
 go_wp2
 go_loopw [4] (fun i wr=>(i= .int .i64 1∨i= .int .i64 2∨i= .int .i64 3)∧Below w.heap.size w wr) (fun i _=>4-(intOf i).toNat)
 case atStart=>exact ⟨.inl rfl,Below.refl _ _⟩
 case round=>
  obtain ⟨rfl|rfl|rfl,hbw⟩:=hrel
  ·go_wp2
   go_region_with (first
    |(go_at_call 399;refine (HC1.out _).mono ?_;rintro e w5 ⟨rfl,rfl⟩)
    |(go_at_call 400;refine (HE1.out _).mono ?_;rintro e w5 ⟨rfl,hb5⟩))
   all_goals
    go_wp2
    go_roundw
    ·exact ⟨.inr (.inl rfl),below_next hbw hb5⟩
    ·simp[intOf]
  ·go_wp2
   go_region
   go_wp2
   go_region_with (first
    |(go_at_call 399;refine (HC2.out _).mono ?_;rintro e w5 ⟨rfl,rfl⟩)
    |(go_at_call 400;refine (HE2.out _).mono ?_;rintro e w5 ⟨rfl,hb5⟩))
   all_goals
    go_wp2
    go_roundw
    ·exact ⟨.inr (.inr rfl),below_next (below_drew hbw) hb5⟩
    ·simp[intOf]
  ·go_wp2
   go_region
   go_wp2
   go_region_with (first
    |(go_at_call 399;refine (HC.out _).mono ?_;rintro e w5 ⟨rfl,rfl⟩)
    |(go_at_call 400;refine (HE.out _).mono ?_;rintro e w5 ⟨rfl,hb5⟩))
   all_goals
    go_wp2
    go_ret2
    exact ⟨rfl,below_next (below_drew hbw) hb5⟩
theorem r_first(s:ByteArray)(c:Nat)(rest:List UInt8)(w:World)(hs:s.data.toList=enc c++rest)(hc:isChar c=true)(hz:s.size≤65536):
 Calls Tryz.prog 362 #[.string s] w fun e w'=>e= .returned (.tuple #[.int .i64 c, .int .i64 (enc c).length])∧Below w.heap.size w w':=by
 rw[enc_length]
 by_cases h1:c<128
 ·rw[if_pos h1];exact r_first1 s c rest w hs hc h1 hz
 ·rw[if_neg h1]
  by_cases h2:c<2048
  ·rw[if_pos h2];exact r_first2 s c rest w hs hc (by omega) h2 hz
  ·rw[if_neg h2];exact r_first3 s c rest w hs hc (by omega) hz
def strSize(v:Value):Nat:=match v with| .string s=>s.size|_=>0
def intsV(l:List Nat):List Value:=l.map fun (n:Nat)=> .int .i64 (n:Int)
theorem encs_cons(c:Nat)(l:List Nat):encs (c::l)=enc c++encs l:=by simp[encs]
theorem enc_pos(n:Nat):1≤(enc n).length:=by rw[enc_length];split <;> (try split) <;> omega
theorem enc_le(n:Nat):(enc n).length≤3:=by rw[enc_length];split <;> (try split) <;> omega
theorem encs_len(l:List Nat):l.length≤(encs l).length∧(encs l).length≤3*l.length:=by
 induction l with
 |nil=>simp[encs]
 |cons c l ih=>rw[encs_cons,List.length_append,List.length_cons];have:=enc_pos c;have:=enc_le c;omega
theorem encs_append(a b:List Nat):encs (a++b)=encs a++encs b:=by simp[encs]
theorem intsV_snoc(a:List Nat)(c:Nat):intsV (a++[c])=intsV a++[.int .i64 c]:=by simp[intsV]
def CRel(cs:List Nat)(w:World)(t out:Value)(wr:World):Prop:= ∃(s:ByteArray) (a b:List Nat),t= .string s∧cs=a++b∧s.data.toList=encs b∧wr.ownsRow w.heap.size 3 1 out a.length (intsV a)∧Below w.heap.size w wr
theorem r_chars(s:ByteArray)(cs:List Nat)(w:World)(hs:s.data.toList=encs cs)(hc: ∀c∈cs,isChar c=true)(hz:s.size≤65536):
 Calls Tryz.prog 305 #[.string s] w fun e w'=> ∃v,e= .returned (.tuple #[v, .int .i64 0])∧w'.ownsRow w.heap.size 3 1 v cs.length (intsV cs)∧Below w.heap.size w w':=by
 obtain ⟨i0,hi,hz0,hz1,hz2⟩:=info_parts info_int
 have hcl:cs.length≤65536:=by have:=(encs_len cs).1;rw[←hs,len_data] at this;omega
 have hs0:(s.size:Int)≤65536:=by omega
 have HS:=hQ hs
 clear hs
 go_enter Tryz.func305,Tryz.ntmps305
 go_wp2
 go_loopw [0,4] (fun t out wr=>CRel cs w t out wr) (fun t _ _=>strSize t)
 case atStart=>exact ⟨s,[],cs,rfl,rfl,HS.out,World.ownsRow_nil _ _ _ _,Below.refl _ _⟩
 case round=>
  obtain ⟨t,a,b,rfl,hab,ht,hown,hbw⟩:=hrel
  cases b with
  |nil=>
   have ht0:t.size=0:=by rw[←len_data,ht];rfl
   have hal:a=cs:=by rw[hab,List.append_nil]
   subst hal
   go_wp2
   go_ret2
   exact ⟨_,rfl,hown,hbw⟩
  |cons c b=>
   have hcc:isChar c=true:=hc c (by rw[hab];simp)
   have htl:t.size=(enc c).length+(encs b).length:=by rw[←len_data,ht,encs_cons,List.length_append]
   have hp:=enc_pos c
   have hp3:=enc_le c
   have htz:t.size≤65536:=by
    have e:(encs cs).length=(encs a).length+t.size:=by rw[hab,encs_append,List.length_append, ←ht,len_data]
    rw[←HS.out,len_data] at e
    omega
   have HF:=hQ (fun W:World=>r_first t c (encs b) W (by rw[ht,encs_cons]) hcc htz)
   have hal:a.length+1≤cs.length:=by rw[hab];simp
   have hd:(t.extract (enc c).length t.size).data.toList=encs b:=by rw[cut_data,ht,encs_cons,List.drop_left,List.take_of_length_le (by omega)]
   have hL:((enc c).length:Int)≤t.size:=by omega
   have hL0:(enc c).length≠0:=by omega
   have hm:(t.extract (enc c).length t.size).size<t.size:=by rw[←len_data,hd];omega
   have ht1:0<t.size:=by omega
   have HTL:=hQ htl
   clear htl ht
   generalize (enc c).length=L at*
   go_wp2_with fail
   refine (HF.out _).mono ?_
   rintro e w1 ⟨rfl,hb1⟩
   have hb1':=hbw.trans (hb1.mono hbw.size)
   have hown1:=own_below' hown hb1
   clear HF
   go_wp2_with (first
    |(at_builtin;refine wpList_append_own _ rfl _ _ 34 rfl w.heap.size 3 i0 (.int .i64 0) 1 8 Tryz.underlying34 hi hz0 hz1 hz2 rfl (by decide) _ _ _ rfl (hown1.alloc _) ⟨w1.heap.size,0,none⟩ 1 1 [.int .i64 c] rfl rfl ?_ ?_ ?_ ?_ ?_ ?_)
    |go_in)
   ·intro j u hj
    match j,hj with
    |0,hj=>simp at hj;subst hj;exact new_one _ _ _ _ rfl
   ·intro u hu;simp at hu;subst hu;rfl
   ·unfold maxLen;omega
   ·omega
   ·exact (hb1'.alloc hb1'.size _).size
   ·intro v' w2 hown' hgrow _
    have hb2:=(hb1'.alloc hb1'.size _).grown hgrow (hb1'.alloc hb1'.size _).size (fun j hj=>(hown1.lt j hj).1)
    go_wp2
    go_roundw
    case rel=>exact ⟨_,a++[c],b,rfl,by rw[hab];simp,hd,by rw[intsV_snoc,List.length_append];exact hown',hb2⟩
    case measure=>exact hm
def bytesV(l:List UInt8):List Value:=l.map fun (b:UInt8)=> .int .u8 (b.toNat:Int)
theorem bytesV_snoc(l:List UInt8)(b:UInt8):bytesV (l++[b])=bytesV l++[.int .u8 (b.toNat:Int)]:=by simp[bytesV]
theorem info_byte:(Tryz.prog.info? 5).map (fun i=>(i.zero,i.size,i.bytes))=some (some (.int .u8 0),1,1):=by kernel_rfl
theorem conv_own{w:World}{base:Nat}{v:Value}(l:List UInt8)(n:Nat)(h:w.ownsRow base 5 1 v n (bytesV l)):Sem.run Tryz.prog (convert 197 9 v) w= .ok (.string ⟨l.toArray⟩) w:=by
 have hn:l.length=n:=by have:=h.1;rw[bytesV,List.length_map,Nat.mul_one] at this;exact this
 subst hn
 rcases h.2 with ⟨rfl,h2⟩|⟨g,cap,cur,rfl,_⟩
 ·have e:l=[]:=List.length_eq_zero_iff.1 h2
  subst e
  rw[show Sem.run Tryz.prog (convert 197 9 (.slice none 0 0)) w=Sem.run Tryz.prog (Conv.bytesToString (.slice none 0 0)) w from run_convert_bytes_string w _ _ 5 none 0 0 Tryz.underlying197 Tryz.underlying5 Tryz.underlying9]
  rfl
 ·refine run_convert_bytes_back w _ _ 5 _ _ l Tryz.underlying197 Tryz.underlying5 Tryz.underlying9 ?_
  intro j hj
  exact h.cells rfl j _ (by rw[bytesV,List.getElem?_map,List.getElem?_eq_getElem hj];rfl)
theorem byte_of(n:Nat)(h:n<256):Value.int .u8 (n:Int)= .int .u8 ((UInt8.ofNat n).toNat:Int):=by congr;simp;omega
def BRel(size:Nat)(w:World)(n out i:Value)(wr:World):Prop:= ∃(m k:Nat) (l:List UInt8),n= .int .i64 m∧m<65536∧i= .int .i64 k∧k≤size∧l.length=k∧wr.ownsRow w.heap.size 5 1 out k (bytesV l)∧Below w.heap.size w wr
theorem r_bytes(n size:Nat)(w:World)(hn:n<65536)(hz:size≤4):
 Calls Tryz.prog 225 #[.int .i64 n, .int .i64 size] w fun e w'=> ∃s:ByteArray,e= .returned (.string s)∧s.size=size∧Below w.heap.size w w':=by
 obtain ⟨i0,hi,hz0,hz1,hz2⟩:=info_parts info_byte
 go_enter Tryz.func225,Tryz.ntmps225
 go_wp2
 go_loopw [0,5,6] (fun m out i wr=>BRel size w m out i wr) (fun _ _ i _=>size-(intOf i).toNat)
 case atStart=>exact ⟨n,0,[],rfl,hn,rfl,by omega,rfl,World.ownsRow_lit _ _ 0 (Nat.le_refl _) (by decide) rfl,(Below.refl _ _).alloc (Nat.le_refl _) _⟩
 case round=>
  obtain ⟨m,k,l,rfl,hm,rfl,hk,hl,hown,hbw⟩:=hrel
  by_cases hlt:k<size
  ·have hB:=byte_of (m % 256) (by omega)
   have e1:((m % 256:Nat):Int)=(m:Int) % 256:=by omega
   rw[e1] at hB
   have HB:=hQ hB
   clear hB e1
   go_wp2_with (first
    |(at_builtin;refine wpList_append_own _ rfl _ _ 197 rfl w.heap.size 5 i0 (.int .u8 0) 1 1 Tryz.underlying197 hi hz0 hz1 hz2 rfl (by decide) _ _ _ rfl (hown.alloc _) ⟨wr.heap.size,0,none⟩ 1 1 [.int .u8 ((m:Int) % 256)] rfl rfl ?_ ?_ ?_ ?_ ?_ ?_)
    |go_in)
   ·intro j u hj
    match j,hj with
    |0,hj=>simp at hj;subst hj;exact new_one _ _ _ _ rfl
   ·intro u hu;simp at hu;subst hu;rfl
   ·unfold maxLen;omega
   ·omega
   ·exact (hbw.alloc hbw.size _).size
   ·intro v' w2 hown' hgrow _
    have hb2:=(hbw.alloc hbw.size _).grown hgrow (hbw.alloc hbw.size _).size (fun j hj=>(hown.lt j hj).1)
    rw[HB.out, ←bytesV_snoc] at hown'
    go_wp2
    go_roundw
    case rel=>exact ⟨m / 256,k+1,_,by first|rfl|go_num,by omega,by go_num,by omega,by simp[hl],hown',hb2⟩
    case measure=>simp[intOf];omega
  ·have hk':k=size:=by omega
   subst hk'
   have hconv:=conv_own l k hown
   go_wp2
   go_ret
   exact ⟨_,rfl,by rw[←len_data];simpa using hl,hbw⟩
def VRel(s:ByteArray)(w:World)(out i:Value)(wr:World):Prop:= ∃(k:Nat) (l:List UInt8),i= .int .i64 ((s.size:Int)-1-k)∧k≤s.size∧l.length=k∧wr.ownsRow w.heap.size 5 1 out k (bytesV l)∧Below w.heap.size w wr
theorem r_reverse(s:ByteArray)(w:World)(hz:s.size≤65536):
 Calls Tryz.prog 363 #[.string s] w fun e w'=> ∃t:ByteArray,e= .returned (.string t)∧t.size=s.size∧Below w.heap.size w w':=by
 obtain ⟨i0,hi,hz0,hz1,hz2⟩:=info_parts info_byte
 go_enter Tryz.func363,Tryz.ntmps363
 go_wp2
 go_loopw [3,4] (fun out i wr=>VRel s w out i wr) (fun _ i _=>(intOf i+1).toNat)
 case atStart=>exact ⟨0,[],by simp,by omega,rfl,World.ownsRow_lit _ _ 0 (Nat.le_refl _) (by decide) rfl,(Below.refl _ _).alloc (Nat.le_refl _) _⟩
 case round=>
  obtain ⟨k,l,rfl,hk,hl,hown,hbw⟩:=hrel
  by_cases hlt:k<s.size
  ·have hi1:(0:Int)≤(s.size:Int)-1-k:=by omega
   have hi2:(s.size:Int)-1-k<s.size:=by omega
   have hi3:((s.size:Int)-1-k).toNat=s.size-1-k:=by omega
   have hj:s.size-1-k<s.size:=by omega
   have hb:=byte_of s[s.size-1-k].toNat (UInt8.toNat_lt _)
   have HB:=hQ hb
   clear hb
   go_wp2_with (first
    |(at_builtin;refine wpList_append_own _ rfl _ _ 197 rfl w.heap.size 5 i0 (.int .u8 0) 1 1 Tryz.underlying197 hi hz0 hz1 hz2 rfl (by decide) _ _ _ rfl (hown.alloc _) ⟨wr.heap.size,0,none⟩ 1 1 [.int .u8 (s[s.size-1-k].toNat:Int)] rfl rfl ?_ ?_ ?_ ?_ ?_ ?_)
    |go_in)
   ·intro j u hj
    match j,hj with
    |0,hj=>simp at hj;subst hj;exact new_one _ _ _ _ rfl
   ·intro u hu;simp at hu;subst hu;rfl
   ·unfold maxLen;omega
   ·omega
   ·exact (hbw.alloc hbw.size _).size
   ·intro v' w2 hown' hgrow _
    have hb2:=(hbw.alloc hbw.size _).grown hgrow (hbw.alloc hbw.size _).size (fun j hj=>(hown.lt j hj).1)
    rw[HB.out, ←bytesV_snoc] at hown'
    go_wp2
    go_roundw
    case rel=>exact ⟨k+1,_,by congr 1;omega,by omega,by simp[hl],hown',hb2⟩
    case measure=>simp[intOf];omega
  ·have hk':k=s.size:=by omega
   have hconv:=conv_own l k hown
   subst hk'
   go_wp2
   go_ret
   exact ⟨_,rfl,by rw[←len_data];simpa using hl,hbw⟩
def wide(cs:List Nat):Nat:=if cs.any (fun c=>decide (255<c)) then 2 else 1
def sqz(cs:List Nat):Nat:=if cs.isEmpty then 0 else 1+cs.length*wide cs
theorem wide_snoc(a:List Nat)(c:Nat):wide (a++[c])=if 255<c then 2 else wide a:=by
 unfold wide
 by_cases h:255<c <;> simp[h]
theorem wide_le(cs:List Nat):1≤wide cs∧wide cs≤2:=by unfold wide;split <;> omega
theorem take_snocN(cs:List Nat)(k:Nat)(h:k<cs.length):cs.take (k+1)=cs.take k++[cs[k]]:=by rw[List.take_succ_eq_append_getElem h]
theorem own_cases{w:World}{base:Nat}{v:Value}{cs:List Nat}(h:w.ownsRow base 3 1 v cs.length (intsV cs)):(v= .slice none 0 0∧cs=[])∨ ∃g cap,v= .slice (some ⟨g,0,none⟩) cs.length cap∧g<w.heap.size∧base≤g∧ ∀k,(hk:k<cs.length)→w.cell? ⟨g,k,none⟩=some (.int .i64 (cs[k]:Nat)):=by
 rcases h.2 with ⟨rfl,h2⟩|⟨g,cap,cur,rfl,hg,_⟩
 ·exact .inl ⟨rfl,List.length_eq_zero_iff.1 h2⟩
 ·refine .inr ⟨g,cap,rfl,(h.lt g rfl).2,hg,fun k hk=>?_⟩
  rw[h.cellAt k (by omega),intsV,List.getElem?_map,List.getElem?_eq_getElem hk]
  rfl
def SRel(cs:List Nat)(sz:Nat)(w:World)(out i:Value)(wr:World):Prop:= ∃(k:Nat) (s:ByteArray),i= .int .i64 k∧k≤cs.length∧out= .string s∧s.size=1+k*sz∧Below w.heap.size w wr
theorem r_squeeze(cs:List Nat)(base:Nat)(v:Value)(w:World)(hown:w.ownsRow base 3 1 v cs.length (intsV cs))(hc: ∀c∈cs,isChar c=true)(hz:cs.length≤65536):
 Calls Tryz.prog 306 #[v] w fun e w'=> ∃s:ByteArray,e= .returned (.string s)∧s.size=sqz cs∧Below w.heap.size w w':=by
 rcases own_cases hown with ⟨rfl,rfl⟩|⟨g,cap,rfl,hg,_,hcell⟩
 ·go_enter Tryz.func306,Tryz.ntmps306
  go_wp2
  go_ret
  exact ⟨_,rfl,rfl,Below.refl _ _⟩
 ·have HC:=hQ hcell
  clear hcell hown
  by_cases h0:cs.length=0
  ·have hcs:cs=[]:=List.length_eq_zero_iff.1 h0
   subst hcs
   go_enter Tryz.func306,Tryz.ntmps306
   go_wp2
   go_ret
   exact ⟨_,rfl,rfl,Below.refl _ _⟩
  ·have h0':((cs.length:Int)==0)=false:=by rw[beq_eq_false_iff_ne];omega
   have hsq:=hQ (show sqz cs=1+cs.length*wide cs by unfold sqz;rw[if_neg (by rw[List.isEmpty_iff_length_eq_zero];exact h0)])
   have hc1:=conv1 w 8 (by omega) (by omega)
   have hc2:=conv1 w 16 (by omega) (by omega)
   go_enter Tryz.func306,Tryz.ntmps306
   go_wp2
   go_loop [3,4] (fun sz i=> ∃k:Nat,k≤cs.length∧i= .int .i64 k∧sz= .int .i64 (wide (cs.take k):Nat)) (fun _ i=>cs.length-(intOf i).toNat)
   case atStart=>exact ⟨0,Nat.zero_le _,rfl,rfl⟩
   case round=>
    obtain ⟨k,hk,rfl,rfl⟩:=hrel
    by_cases hlt:k<cs.length
    ·have hck:=HC.out k hlt
     have HW:=hQ (wide_snoc (cs.take k) cs[k])
     rw[←take_snocN cs k hlt] at HW
     have hi:(k:Int)<(cs.length:Int):=by omega
     by_cases hbig:255<cs[k]
     ·have hb':(255:Int)<(cs[k]:Int):=by omega
      rw[if_pos hbig] at HW
      generalize cs[k]=q at*
      go_wp2
      go_round
      case rel=>exact ⟨k+1,by omega,by go_num,by rw[HW.out];rfl⟩
      case measure=>simp[intOf];omega
     ·have hb': ¬(255:Int)<(cs[k]:Int):=by omega
      rw[if_neg hbig] at HW
      generalize cs[k]=q at*
      go_wp2
      go_round
      case rel=>exact ⟨k+1,by omega,by go_num,by rw[HW.out]⟩
      case measure=>simp[intOf];omega
    ·have hk':k=cs.length:=by omega
     subst hk'
     rw[List.take_length]
     have hw:=wide_le cs
     generalize wide cs=sz at*
     have HS:sz=1∨sz=2:=by omega
     have hbel:Below w.heap.size w (w.alloc (.cells #[.int .u8 8] 5))∧Below w.heap.size w (w.alloc (.cells #[.int .u8 16] 5)):=⟨(Below.refl _ _).alloc (Nat.le_refl _) _,(Below.refl _ _).alloc (Nat.le_refl _) _⟩
     have HCH:=hQ hc
     clear hw
     rcases HS with rfl|rfl
     ·go_wp2
      go_loopw [5,6] (fun out i wr=>SRel cs 1 w out i wr) (fun _ i _=>cs.length-(intOf i).toNat)
      case atStart=>exact ⟨0,_,rfl,Nat.zero_le _,rfl,rfl,by first|exact hbel.1|exact hbel.2⟩
      case round=>
       obtain ⟨k,s,rfl,hk,rfl,hs,hbw⟩:=hrel
       by_cases hlt:k<cs.length
       ·have hck:=(hbw.cell (by exact hg)).trans (HC.out k hlt)
        have hq:=isChar_lt (HCH.out cs[k] (List.getElem_mem hlt))
        have hi:(k:Int)<(cs.length:Int):=by omega
        generalize cs[k]=q at*
        go_wp2_with fail
        refine (r_bytes q 1 _ hq (by omega)).mono ?_
        rintro e w2 ⟨t,rfl,ht,hb2⟩
        have hb2':=hbw.trans (hb2.mono hbw.size)
        go_wp2_with fail
        refine (r_reverse t _ (by omega)).mono ?_
        rintro e w3 ⟨t',rfl,ht',hb3⟩
        have hb3':=hb2'.trans (hb3.mono hb2'.size)
        go_wp2
        go_roundw
        case rel=>exact ⟨k+1,_,by go_num,by omega,rfl,by rw[ByteArray.size_append,hs,ht',ht];omega,hb3'⟩
        case measure=>simp[intOf];omega
       ·have hk':k=cs.length:=by omega
        subst hk'
        go_wp2
        go_ret
        exact ⟨_,rfl,by rw[hs,hsq.out],hbw⟩
     ·go_wp2
      go_loopw [5,6] (fun out i wr=>SRel cs 2 w out i wr) (fun _ i _=>cs.length-(intOf i).toNat)
      case atStart=>exact ⟨0,_,rfl,Nat.zero_le _,rfl,rfl,by first|exact hbel.1|exact hbel.2⟩
      case round=>
       obtain ⟨k,s,rfl,hk,rfl,hs,hbw⟩:=hrel
       by_cases hlt:k<cs.length
       ·have hck:=(hbw.cell (by exact hg)).trans (HC.out k hlt)
        have hq:=isChar_lt (HCH.out cs[k] (List.getElem_mem hlt))
        have hi:(k:Int)<(cs.length:Int):=by omega
        generalize cs[k]=q at*
        go_wp2_with fail
        refine (r_bytes q 2 _ hq (by omega)).mono ?_
        rintro e w2 ⟨t,rfl,ht,hb2⟩
        have hb2':=hbw.trans (hb2.mono hbw.size)
        go_wp2_with fail
        refine (r_reverse t _ (by omega)).mono ?_
        rintro e w3 ⟨t',rfl,ht',hb3⟩
        have hb3':=hb2'.trans (hb3.mono hb2'.size)
        go_wp2
        go_roundw
        case rel=>exact ⟨k+1,_,by go_num,by omega,rfl,by rw[ByteArray.size_append,hs,ht',ht];omega,hb3'⟩
        case measure=>simp[intOf];omega
       ·have hk':k=cs.length:=by omega
        subst hk'
        go_wp2
        go_ret
        exact ⟨_,rfl,by rw[hs,hsq.out],hbw⟩
theorem r_compress(s:ByteArray)(cs:List Nat)(w:World)(hs:s.data.toList=encs cs)(hc: ∀c∈cs,isChar c=true)(hz:s.size≤65536):
 Calls Tryz.prog 224 #[.string s] w fun e w'=> ∃t:ByteArray,e= .returned (.tuple #[.string t, .int .i64 0])∧t.size=sqz cs∧Below w.heap.size w w':=by
 have HC:=hQ (r_chars s cs w hs hc hz)
 have hcl:cs.length≤65536:=by have:=(encs_len cs).1;rw[←hs,len_data] at this;omega
 have HQ:=hQ (fun (v:Value) (W:World) (h:W.ownsRow w.heap.size 3 1 v cs.length (intsV cs))=>r_squeeze cs _ v W h hc hcl)
 clear hs hc
 go_enter Tryz.func224,Tryz.ntmps224
 go_wp2_with fail
 refine HC.out.mono ?_
 rintro e w1 ⟨v,rfl,hown,hb1⟩
 go_wp2_with fail
 refine (HQ.out v _ hown).mono ?_
 rintro e w2 ⟨t,rfl,ht,hb2⟩
 go_wp2
 go_ret2
 exact ⟨_,rfl,ht,hb1.trans (hb2.mono hb1.size)⟩
theorem new_cells(W:World)(l:List Value)(e:TypeId): ∀j u,l[j]? =some u→(W.alloc (.cells l.toArray e)).cell? ((⟨W.heap.size,0,none⟩:Addr).add j)=some u:=by
 intro j u hj
 have e:(({block:=W.heap.size,off:=0}:Addr).add j)=⟨W.heap.size,j,none⟩:=by
  unfold Addr.add
  by_cases hz:j=0
  ·subst hz;rfl
  ·rw[if_neg hz];simp
 rw[e,World.cell?_alloc_at _ _ _ _ rfl]
 simpa using hj
def fidV(t:ByteArray)(hid dir del par met:Bool)(b p u:Nat):Value:= .agg #[.string t, .bool hid, .bool dir, .bool del, .bool par, .bool met, .int .i64 b, .int .i64 p, .int .i64 u]
def entryOK(cs:List Nat)(dir par:Bool):Bool:=if par then dir&&cs.isEmpty else !cs.isEmpty
theorem isEmpty_str{t:ByteArray}{cs:List Nat}(ht:t.data.toList=encs cs):t.toList.isEmpty=cs.isEmpty:=by
 rw[ByteArray.toList_eq,ht]
 cases cs with
 |nil=>rfl
 |cons c l=>
  rw[encs_cons]
  have:=enc_pos c
  cases h:enc c with
  |nil=>rw[h] at this;simp at this
  |cons a b=>rfl
theorem r_entry(t:ByteArray)(cs:List Nat)(hid dir del par met:Bool)(b p u:Nat)(w:World)(ht:t.data.toList=encs cs)(hc: ∀c∈cs,isChar c=true)(hz:t.size≤65536)(hq:sqz cs≤255)
 (hb:b<4294967296) (hp:p<65536) (hu:u<4294967296):
 Calls Tryz.prog 226 #[fidV t hid dir del par met b p u] w fun e w'=>e= .returned (.bool (entryOK cs dir par))∧Below w.heap.size w w':=by
 have hE:=isEmpty_str ht
 have HW:=hQ (fun (n:Nat) (hn:n<4294967296) (W:World)=>r_word n W hn)
 have HC:=hQ (fun W:World=>r_compress t cs W ht hc hz)
 clear ht hc
 unfold fidV
 have hp0: ¬(p:Int)<0:=by omega
 have hp1: ¬(65535:Int)<(p:Int):=by omega
 have hpd0:decide ((p:Int)<0)=false:=by simp
 have hpd1:decide ((65535:Int)<(p:Int))=false:=by simp;omega
 have hcell: ∀k:Nat, ∀v,(#[Value.string t, .bool hid, .bool dir, .bool del, .bool par, .bool met, .int .i64 b, .int .i64 p, .int .i64 u]:Array Value)[k]? =some v→(w.alloc (.cells #[Value.string t, .bool hid, .bool dir, .bool del, .bool par, .bool met, .int .i64 b, .int .i64 p, .int .i64 u] 58)).cell? ⟨w.heap.size,k,none⟩=some v:=by
  intro k v hv
  rw[World.cell?_alloc_at _ _ _ _ rfl];exact hv
 have c0:=hcell 0 _ rfl
 have c2:=hcell 2 _ rfl
 have c4:=hcell 4 _ rfl
 have c6:=hcell 6 _ rfl
 have c7:=hcell 7 _ rfl
 have c8:=hcell 8 _ rfl
 have hbel:Below w.heap.size w (w.alloc (.cells #[Value.string t, .bool hid, .bool dir, .bool del, .bool par, .bool met, .int .i64 b, .int .i64 p, .int .i64 u] 58)):=(Below.refl _ _).alloc (Nat.le_refl _) _
 clear hcell
 go_enter Tryz.func226,Tryz.ntmps226
 go_wp2_with fail
 refine (HW.out b hb _).mono ?_
 rintro e w1 ⟨rfl,rfl⟩
 go_wp2_with fail
 refine (HW.out u hu _).mono ?_
 rintro e w1 ⟨rfl,rfl⟩
 cases par
 ·go_wp2_with fail
  refine (HC.out _).mono ?_
  rintro e w2 ⟨s,rfl,hs,hb2⟩
  cases he:cs.isEmpty
  ·have h1:1≤sqz cs:=by unfold sqz;rw[he];simp
   go_wp2
   go_ret
   exact ⟨ret_bool' (by simp[entryOK,he] <;> omega),hbel.trans (hb2.mono hbel.size)⟩
  ·have h1:sqz cs=0:=by unfold sqz;rw[he];rfl
   go_wp2
   go_ret
   exact ⟨ret_bool' (by simp[entryOK,he] <;> omega),hbel.trans (hb2.mono hbel.size)⟩
 ·cases dir
  ·go_wp2
   go_ret
   exact ⟨ret_bool' (by simp[entryOK]),hbel⟩
  ·go_wp2
   go_ret
   exact ⟨ret_bool' (by simp[entryOK]),hbel⟩
def goodCs(cs:List Nat):Bool:=decide (encs cs≠[46])&&(decide (encs cs≠[46,46])&&(!(encs cs).contains 47&&(decide (1≤cs.length)&&decide (cs.length≤64))))
theorem contains_take(l:List UInt8)(k:Nat)(h:k<l.length):(l.take (k+1)).contains 47=((l.take k).contains 47||decide (l[k].toNat=47)):=by
 rw[List.take_succ_eq_append_getElem h,List.contains_append]
 congr 1
 rw[Bool.eq_iff_iff]
 simp only[List.contains_cons,List.contains_nil,Bool.or_false,beq_iff_eq,decide_eq_true_eq]
 exact ⟨fun e=>by rw[←e];rfl,fun e=>UInt8.toNat.inj (by rw[e];rfl)⟩
theorem r_name18(s:ByteArray)(cs:List Nat)(w:World)(hs:s.data.toList=encs cs)(hc: ∀c∈cs,isChar c=true)(hz:s.size≤65536):
 Calls Tryz.prog 301 #[.string s] w fun e w'=>e= .returned (.bool (goodCs cs))∧Below w.heap.size w w':=by
 by_cases hd1:encs cs=[46]
 ·have hg:goodCs cs=false:=by unfold goodCs;rw[hd1];rfl
  rw[hg]
  have hd:s.toList=[46]:=by rw[ByteArray.toList_eq,hs,hd1]
  go_enter Tryz.func301,Tryz.ntmps301
  go_wp2
  go_ret
  exact ⟨rfl,Below.refl _ _⟩
 ·have hb1:(s.toList==[46])=false:=by rw[ByteArray.toList_eq,hs,beq_eq_false_iff_ne];exact hd1
  by_cases hd2:encs cs=[46,46]
  ·have hg:goodCs cs=false:=by unfold goodCs;rw[hd2];rfl
   rw[hg]
   have hd:s.toList=[46,46]:=by rw[ByteArray.toList_eq,hs,hd2]
   go_enter Tryz.func301,Tryz.ntmps301
   go_wp2
   go_ret
   exact ⟨rfl,Below.refl _ _⟩
  ·have hb2:(s.toList==[46,46])=false:=by rw[ByteArray.toList_eq,hs,beq_eq_false_iff_ne];exact hd2
   have hl3:=(encs_len cs).2
   rw[←hs,len_data] at hl3
   by_cases hlen:300<s.size
   ·have hg:goodCs cs=false:=by
     unfold goodCs
     rw[decide_eq_false (show ¬cs.length≤64 by omega)]
     simp
    rw[hg]
    have hlen':(300:Int)<s.size:=by omega
    clear hlen
    go_enter Tryz.func301,Tryz.ntmps301
    go_wp2
    go_ret
    exact ⟨rfl,Below.refl _ _⟩
   ·have hlen':decide ((300:Int)<s.size)=false:=by simp;omega
    have HG:=hQ (show goodCs cs=(!(s.data.toList).contains 47&&(decide (1≤cs.length)&&decide (cs.length≤64))) by
     rw[hs];unfold goodCs;rw[decide_eq_true hd1,decide_eq_true hd2,Bool.true_and,Bool.true_and])
    have HC:=hQ (fun W:World=>r_chars s cs W hs hc hz)
    clear hd1 hd2 hs hc hl3
    go_enter Tryz.func301,Tryz.ntmps301
    go_wp2
    go_loop [3] (fun i=> ∃k:Nat,k≤s.size∧i= .int .i64 k∧Hid ((s.data.toList.take k).contains 47=false)) (fun i=>s.size-(intOf i).toNat)
    case atStart=>exact ⟨0,Nat.zero_le _,rfl,rfl⟩
    case round=>
     obtain ⟨k,hk,rfl,hno⟩:=hrel
     by_cases hlt:k<s.size
     ·have hb:s[k].toNat<256:=UInt8.toNat_lt _
      have HT:=hQ (contains_take s.data.toList k (by simpa using hlt))
      have hi:(k:Int)<s.size:=by omega
      by_cases h47:s[k].toNat=47
      ·have HX:Hid (goodCs cs=false):=by
        show _=_
        rw[HG.out]
        have h1:s.data.toList.contains 47=true:=by
         rw[List.contains_iff_mem]
         have:s[k]=47:=UInt8.toNat.inj h47
         rw[←this]
         exact List.getElem_mem (by simpa using hlt)
        rw[h1];rfl
       go_wp2
       go_ret
       exact ⟨ret_bool' HX.out.symm,Below.refl _ _⟩
      ·have h47':((s[k].toNat:Int)==47)=false:=by rw[beq_eq_false_iff_ne];omega
       have HN:Hid ((s.data.toList.take (k+1)).contains 47=false):=by
        show _=_
        rw[HT.out,hno.out,Bool.false_or]
        exact decide_eq_false h47
       clear h47
       go_wp2
       go_round
       case rel=>exact ⟨k+1,by omega,by go_num,HN⟩
       case measure=>simp[intOf];omega
     ·have hk':k=s.size:=by omega
      subst hk'
      have HX:Hid (goodCs cs=(decide (1≤cs.length)&&decide (cs.length≤64))):=by
       show _=_
       have h1:=hno.out
       rw[List.take_of_length_le (by simp)] at h1
       rw[HG.out,h1];rfl
      clear hno
      go_wp2_with fail
      refine (HC.out _).mono ?_
      rintro e w1 ⟨v,rfl,hown,hb1⟩
      have hE: ∃(a:Option Addr) (c:Nat),v= .slice a cs.length c:=by
       rcases hown.2 with ⟨rfl,h0⟩|⟨g,cap,cur,rfl,_⟩
       ·exact ⟨none,0,by rw[h0]⟩
       ·exact ⟨_,_,rfl⟩
      obtain ⟨a,c,rfl⟩:=hE
      clear hown
      have e1:decide ((1:Int)≤cs.length)=decide (1≤cs.length):=by rw[Bool.eq_iff_iff];simp;omega
      have e2:decide ((cs.length:Int)≤64)=decide (cs.length≤64):=by rw[Bool.eq_iff_iff];simp;omega
      by_cases h1:1≤cs.length
      ·have h1':(1:Int)≤cs.length:=by omega
       go_wp2
       go_ret
       exact ⟨ret_bool' (by rw[HX.out,decide_eq_true h1,Bool.true_and, ←e2]),hb1⟩
      ·have h1':decide ((1:Int)≤cs.length)=false:=by simp;omega
       go_wp2
       go_ret
       exact ⟨ret_bool' (by rw[HX.out,decide_eq_false h1,Bool.false_and]),hb1⟩
def QRel5(cs:List Nat)(sz:Nat)(w:World)(out i:Value)(wr:World):Prop:= ∃(k:Nat) (l:List UInt8),i= .int .i64 k∧k≤cs.length∧l.length=1+k*sz∧wr.ownsRow w.heap.size 5 1 out l.length (bytesV l)∧Below w.heap.size w wr
theorem p_comp1(cs:List Nat)(base:Nat)(v:Value)(w:World)(hown:w.ownsRow base 3 1 v cs.length (intsV cs))(hc: ∀c∈cs,isChar c=true)(hz:cs.length≤65536)(h1:cs≠[]):
 Calls Tryz.prog 299 #[v, .int .i64 1] w fun e w'=> ∃s:ByteArray,e= .returned (.string s)∧s.size=1+cs.length*1∧Below w.heap.size w w':=by
 obtain ⟨i0,hi,hz0,hz1,hz2⟩:=info_parts info_byte
 rcases own_cases hown with ⟨rfl,h2⟩|⟨g,cap,rfl,hg,_,hcell⟩
 ·exact absurd h2 h1
 ·have HC:=hQ hcell
  have HCH:=hQ hc
  clear hcell hown hc h1
  have own0:(w.alloc (.cells #[.int .u8 8] 5)).ownsRow w.heap.size 5 1 (.slice (some ⟨w.heap.size,0,none⟩) 1 1) 1 (bytesV [8]):=World.ownsRow_lit _ _ 1 (Nat.le_refl _) (by decide) rfl
  have H0:Hid (QRel5 cs 1 w (.slice (some ⟨w.heap.size,0,none⟩) 1 1) (.int .i64 0) (w.alloc (.cells #[.int .u8 8] 5))):=⟨0,[8],rfl,Nat.zero_le _,rfl,own0,(Below.refl _ _).alloc (Nat.le_refl _) _⟩
  clear own0
  go_enter Tryz.func299,Tryz.ntmps299
  go_wp2
  go_loopw [5,15] (fun out i wr=>QRel5 cs 1 w out i wr) (fun _ i _=>cs.length-(intOf i).toNat)
  case atStart=>exact H0.out
  case round=>
   obtain ⟨k,l,rfl,hk,hl,hown,hbw⟩:=hrel
   by_cases hlt:k<cs.length
   ·have hck:=(hbw.cell (by exact hg)).trans (HC.out k hlt)
    have hq:=isChar_lt (HCH.out cs[k] (List.getElem_mem hlt))
    have hi':(k:Int)<(cs.length:Int):=by omega
    generalize cs[k]=q at*
    have hll:l.length≤131073:=by omega
    have HL:=hQ hl
    clear hl H0
    have e1:((q % 256:Nat):Int)=(q:Int) % 256:=by omega
    have hB1:=byte_of (q % 256) (by omega)
    rw[e1] at hB1
    have HB1:=hQ hB1
    clear hB1 e1
    go_wp2
    refine wp_loop_rounds 2 ?_
    rw[rounds_succ]
    go_wp2_with (first
     |(at_builtin;refine wpList_append_own _ rfl _ _ 197 rfl w.heap.size 5 i0 (.int .u8 0) 1 1 Tryz.underlying197 hi hz0 hz1 hz2 rfl (by decide) _ _ _ rfl (hown.alloc _) ⟨wr.heap.size,0,none⟩ 1 1 [.int .u8 ((q:Int) % 256)] rfl rfl ?_ ?_ ?_ ?_ ?_ ?_)
     |go_in)
    ·intro j u hj
     match j,hj with
     |0,hj=>simp at hj;subst hj;exact new_one _ _ _ _ rfl
    ·intro u hu;simp at hu;subst hu;rfl
    ·unfold maxLen;omega
    ·omega
    ·exact (hbw.alloc hbw.size _).size
    ·intro v2 w2 hown' hgrow _
     have hb2:=(hbw.alloc hbw.size _).grown hgrow (hbw.alloc hbw.size _).size (fun j hj=>(hown.lt j hj).1)
     rw[HB1.out, ←bytesV_snoc] at hown'
     have hown2:=hown'
     clear hown' hgrow
     go_wp2
     rw[rounds_succ]
     go_wp2
     go_roundw
     case rel=>exact ⟨k+1,l++[UInt8.ofNat (q % 256)],by first|rfl|go_num,by omega,by have:=HL.out;rw[List.length_append];simp only[List.length_cons,List.length_nil];omega,by rw[List.length_append];exact hown2,hb2⟩
     case measure=>simp[intOf];omega
   ·have hk':k=cs.length:=by omega
    have HL:=hQ hl
    have hconv:=conv_own l _ hown
    subst hk'
    clear hl
    go_wp2
    go_ret
    exact ⟨_,rfl,by rw[←len_data];simpa using HL.out,hbw⟩
theorem p_comp2(cs:List Nat)(base:Nat)(v:Value)(w:World)(hown:w.ownsRow base 3 1 v cs.length (intsV cs))(hc: ∀c∈cs,isChar c=true)(hz:cs.length≤65536)(h1:cs≠[]):
 Calls Tryz.prog 299 #[v, .int .i64 2] w fun e w'=> ∃s:ByteArray,e= .returned (.string s)∧s.size=1+cs.length*2∧Below w.heap.size w w':=by
 obtain ⟨i0,hi,hz0,hz1,hz2⟩:=info_parts info_byte
 rcases own_cases hown with ⟨rfl,h2⟩|⟨g,cap,rfl,hg,_,hcell⟩
 ·exact absurd h2 h1
 ·have HC:=hQ hcell
  have HCH:=hQ hc
  clear hcell hown hc h1
  have own0:(w.alloc (.cells #[.int .u8 16] 5)).ownsRow w.heap.size 5 1 (.slice (some ⟨w.heap.size,0,none⟩) 1 1) 1 (bytesV [16]):=World.ownsRow_lit _ _ 1 (Nat.le_refl _) (by decide) rfl
  have H0:Hid (QRel5 cs 2 w (.slice (some ⟨w.heap.size,0,none⟩) 1 1) (.int .i64 0) (w.alloc (.cells #[.int .u8 16] 5))):=⟨0,[16],rfl,Nat.zero_le _,rfl,own0,(Below.refl _ _).alloc (Nat.le_refl _) _⟩
  clear own0
  go_enter Tryz.func299,Tryz.ntmps299
  go_wp2
  go_loopw [5,15] (fun out i wr=>QRel5 cs 2 w out i wr) (fun _ i _=>cs.length-(intOf i).toNat)
  case atStart=>exact H0.out
  case round=>
   obtain ⟨k,l,rfl,hk,hl,hown,hbw⟩:=hrel
   by_cases hlt:k<cs.length
   ·have hck:=(hbw.cell (by exact hg)).trans (HC.out k hlt)
    have hq:=isChar_lt (HCH.out cs[k] (List.getElem_mem hlt))
    have hi':(k:Int)<(cs.length:Int):=by omega
    generalize cs[k]=q at*
    have hll:l.length≤131073:=by omega
    have HL:=hQ hl
    clear hl H0
    have e1:((q / 256:Nat):Int)=(q:Int) / 256:=by omega
    have hB1:=byte_of (q / 256) (by omega)
    rw[e1] at hB1
    have HB1:=hQ hB1
    clear hB1 e1
    have e1:((q % 256:Nat):Int)=(q:Int) % 256:=by omega
    have hB2:=byte_of (q % 256) (by omega)
    rw[e1] at hB2
    have HB2:=hQ hB2
    clear hB2 e1
    go_wp2
    refine wp_loop_rounds 3 ?_
    rw[rounds_succ]
    go_wp2_with (first
     |(at_builtin;refine wpList_append_own _ rfl _ _ 197 rfl w.heap.size 5 i0 (.int .u8 0) 1 1 Tryz.underlying197 hi hz0 hz1 hz2 rfl (by decide) _ _ _ rfl (hown.alloc _) ⟨wr.heap.size,0,none⟩ 1 1 [.int .u8 ((q:Int) / 256)] rfl rfl ?_ ?_ ?_ ?_ ?_ ?_)
     |go_in)
    ·intro j u hj
     match j,hj with
     |0,hj=>simp at hj;subst hj;exact new_one _ _ _ _ rfl
    ·intro u hu;simp at hu;subst hu;rfl
    ·unfold maxLen;omega
    ·omega
    ·exact (hbw.alloc hbw.size _).size
    ·intro v2 w2 hown' hgrow _
     have hb2:=(hbw.alloc hbw.size _).grown hgrow (hbw.alloc hbw.size _).size (fun j hj=>(hown.lt j hj).1)
     rw[HB1.out, ←bytesV_snoc] at hown'
     have hown2:=hown'
     clear hown' hgrow
     go_wp2
     rw[rounds_succ]
     have hll2:(l++[UInt8.ofNat (q / 256)]).length≤131074:=by simp;omega
     have hown2':w2.ownsRow w.heap.size 5 1 v2 (l++[UInt8.ofNat (q / 256)]).length (bytesV (l++[UInt8.ofNat (q / 256)])):=by rw[List.length_append];exact hown2
     go_wp2_with (first
      |(at_builtin;refine wpList_append_own _ rfl _ _ 197 rfl w.heap.size 5 i0 (.int .u8 0) 1 1 Tryz.underlying197 hi hz0 hz1 hz2 rfl (by decide) _ _ _ rfl (hown2'.alloc _) ⟨w2.heap.size,0,none⟩ 1 1 [.int .u8 ((q:Int) % 256)] rfl rfl ?_ ?_ ?_ ?_ ?_ ?_)
      |go_in)
     ·intro j u hj
      match j,hj with
      |0,hj=>simp at hj;subst hj;exact new_one _ _ _ _ rfl
     ·intro u hu;simp at hu;subst hu;rfl
     ·unfold maxLen;omega
     ·omega
     ·exact (hb2.alloc hb2.size _).size
     ·intro v3 w3 hown' hgrow _
      have hb3:=(hb2.alloc hb2.size _).grown hgrow (hb2.alloc hb2.size _).size (fun j hj=>(hown2'.lt j hj).1)
      rw[HB2.out, ←bytesV_snoc] at hown'
      have hown3:=hown'
      clear hown' hgrow
      go_wp2
      rw[rounds_succ]
      go_wp2
      go_roundw
      case rel=>exact ⟨k+1,l++[UInt8.ofNat (q / 256)]++[UInt8.ofNat (q % 256)],by first|rfl|go_num,by omega,by have:=HL.out;rw[List.length_append,List.length_append];simp only[List.length_cons,List.length_nil];omega,by rw[List.length_append,List.length_append];exact hown3,hb3⟩
      case measure=>simp[intOf];omega
   ·have hk':k=cs.length:=by omega
    have HL:=hQ hl
    have hconv:=conv_own l _ hown
    subst hk'
    clear hl
    go_wp2
    go_ret
    exact ⟨_,rfl,by rw[←len_data];simpa using HL.out,hbw⟩
def Tabs(w:World):Prop:=Lib.Utf8Tabs 1 2 w∧1<w.heap.size∧2<w.heap.size
theorem Tabs.step{w w':World}(h:Tabs w)(hb:Below w.heap.size w w'):Tabs w':=by
 obtain ⟨⟨h1,h2⟩,h3,h4⟩:=h
 exact ⟨⟨fun c hc=>(hb.cell (by exact h3)).trans (h1 c hc),fun i hi=>⟨(hb.cell (by exact h4)).trans (h2 i hi).1,(hb.cell (by exact h4)).trans (h2 i hi).2⟩⟩,Nat.lt_of_lt_of_le h3 hb.size,Nat.lt_of_lt_of_le h4 hb.size⟩
theorem decodeN_enc(n c b0 b1 b2 b3:Nat)(hc:isChar c=true)(h:(c<128∧b0=c)∨(128≤c∧c<2048∧2≤n∧b0=192+c / 64∧b1=128+c % 64)∨(2048≤c∧3≤n∧b0=224+c / 4096∧b1=128+c / 64 % 64∧b2=128+c % 64)):
 Lib.decodeN n b0 b1 b2 b3=(c,if c<128 then 1 else if c<2048 then 2 else 3):=by
 have hr:=isChar_cases c
 have hcr:32≤c∧c≤65533∧(c<55296∨57343<c):=by
  rcases hr with ⟨h1,h2⟩|⟨h1,h2⟩|⟨h1,h2,h3⟩|⟨h1,h2,h3⟩|⟨h1,h2,h3⟩
  ·rw[hc] at h2;cases h2
  ·rw[hc] at h2;cases h2
  ·omega
  ·rw[hc] at h3;cases h3
  ·omega
 clear hr hc
 rcases h with ⟨h1,rfl⟩|⟨h1,h2,h3,rfl,rfl⟩|⟨h1,h2,rfl,rfl,rfl⟩
 ·unfold Lib.decodeN;rw[if_pos h1,if_pos h1]
 ·unfold Lib.decodeN
  rw[if_neg (by omega),if_pos ⟨by omega,by omega,by omega⟩,if_pos (by omega),if_neg (by omega),if_pos h2]
  congr 1;omega
 ·have e:(224+c / 4096) % 16*4096+(128+c / 64 % 64) % 64*64+(128+c % 64) % 64=c:=by omega
  unfold Lib.decodeN
  rw[if_neg (by omega),if_neg (by omega),if_pos ⟨by omega,⟨by omega,by omega⟩,by omega,by omega⟩,e,if_pos ⟨by omega,by omega⟩,if_neg (by omega),if_neg (by omega)]
theorem get_bang(s:ByteArray)(i:Nat):(s.get! i).toNat=(s.data.toList.getD i 0).toNat:=by
 congr 1
 show s.data[i]! =_
 rw[List.getD]
 by_cases h:i<s.data.size
 ·rw[getElem!_pos s.data i h,List.getElem?_eq_getElem (by simpa using h)];simp
 ·rw[getElem!_neg s.data i h,List.getElem?_eq_none (by simpa using h)];rfl
theorem decodeGo_enc(s:ByteArray)(c:Nat)(rest:List UInt8)(hs:s.data.toList=enc c++rest)(hc:isChar c=true):Lib.decodeGo s=(c,(enc c).length):=by
 have hp:=enc_pos c
 have hsz:s.size=(enc c).length+rest.length:=by rw[←len_data,hs,List.length_append]
 have hlt:=isChar_lt hc
 unfold Lib.decodeGo
 rw[if_neg (by omega),Lib.decode_at,get_bang,get_bang,get_bang,get_bang,hs,enc_length]
 refine decodeN_enc _ c _ _ _ _ hc ?_
 by_cases h1:c<128
 ·left
  rw[enc1 h1]
  exact ⟨h1,by simp;omega⟩
 ·by_cases h2:c<2048
  ·right;left
   rw[enc2 (by omega) h2] at hsz ⊢
   refine ⟨by omega,h2,by simp at hsz;omega,by simp;omega,by simp;omega⟩
  ·right;right
   rw[enc3 (by omega)] at hsz ⊢
   refine ⟨by omega,by simp at hsz;omega,by simp;omega,by simp;omega,by simp;omega⟩
theorem p_decode(s:ByteArray)(c:Nat)(rest:List UInt8)(w:World)(hT:Tabs w)(hs:s.data.toList=enc c++rest)(hc:isChar c=true):
 Calls Tryz.prog 345 #[.string s] w fun e w'=>e= .returned (.tuple #[.int .i32 c, .int .i64 (enc c).length])∧Below w.heap.size w w':=by
 have:=Tryz.utf8_DecodeRuneInString s w hT.1
 rw[decodeGo_enc s c rest hs hc] at this
 exact this
theorem p_chars(s:ByteArray)(cs:List Nat)(w:World)(hT:Tabs w)(hs:s.data.toList=encs cs)(hc: ∀c∈cs,isChar c=true)(hz:s.size≤65536):
 Calls Tryz.prog 287 #[.string s] w fun e w'=> ∃v,e= .returned (.tuple #[v, .int .i64 0])∧w'.ownsRow w.heap.size 3 1 v cs.length (intsV cs)∧Below w.heap.size w w':=by
 obtain ⟨i0,hi,hz0,hz1,hz2⟩:=info_parts info_int
 have hcl:cs.length≤65536:=by have:=(encs_len cs).1;rw[←hs,len_data] at this;omega
 have hs0:(s.size:Int)≤65536:=by omega
 have HS:=hQ hs
 have HT:=hQ hT
 clear hs hT
 go_enter Tryz.func287,Tryz.ntmps287
 go_wp2_with (first
  |(at_make;refine wpList_make_own _ rfl _ _ 34 rfl w.heap.size 3 i0 (.int .i64 0) 1 Tryz.underlying34 hi hz0 hz1 .i64 .i64 _ s.size rfl rfl rfl (by rw[hz2];omega) (by unfold maxLen;omega) (Nat.le_refl _) ?_;intro w0 hown0 hgrow0)
  |go_in)
 have H0:Hid (CRel cs w (.string s) (.slice (some ⟨w.heap.size,0,none⟩) 0 s.size) w0):=⟨s,[],cs,rfl,rfl,HS.out,hown0,(Below.refl _ _).grown hgrow0 (Nat.le_refl _) (fun j hj=>by cases hj)⟩
 clear hown0 hgrow0
 go_loopw [0,4] (fun t out wr=>CRel cs w t out wr) (fun t _ _=>strSize t)
 case atStart=>exact H0.out
 case round=>
  obtain ⟨t,a,b,rfl,hab,ht,hown,hbw⟩:=hrel
  clear H0
  cases b with
  |nil=>
   have ht0:t.size=0:=by rw[←len_data,ht];rfl
   have hal:a=cs:=by rw[hab,List.append_nil]
   subst hal
   go_wp2
   go_ret2
   exact ⟨_,rfl,hown,hbw⟩
  |cons c b=>
   have hcc:isChar c=true:=hc c (by rw[hab];simp)
   have htl:t.size=(enc c).length+(encs b).length:=by rw[←len_data,ht,encs_cons,List.length_append]
   have hp:=enc_pos c
   have hp3:=enc_le c
   have hclt:=isChar_lt hcc
   have htz:t.size≤65536:=by
    have e:(encs cs).length=(encs a).length+t.size:=by rw[hab,encs_append,List.length_append, ←ht,len_data]
    rw[←HS.out,len_data] at e
    omega
   have HF:=hQ (fun (W:World) (hW:Tabs W)=>p_decode t c (encs b) W hW (by rw[ht,encs_cons]) hcc)
   have HC:=hQ (fun W:World=>p_char c W)
   rw[hcc] at HC
   have hal:a.length+1≤cs.length:=by rw[hab];simp
   have hd:(t.extract (enc c).length t.size).data.toList=encs b:=by rw[cut_data,ht,encs_cons,List.drop_left,List.take_of_length_le (by omega)]
   have hL:((enc c).length:Int)≤t.size:=by omega
   have hL0:(enc c).length≠0:=by omega
   have hm:(t.extract (enc c).length t.size).size<t.size:=by rw[←len_data,hd];omega
   have ht1:0<t.size:=by omega
   have hr:((c:Int)==65533)=false∨(((c:Int)==65533)=true∧(((enc c).length:Int)==1)=false):=by
    by_cases h:c=65533
    ·right
     subst h
     exact ⟨rfl,by rw[beq_eq_false_iff_ne,enc_length];decide⟩
    ·left;rw[beq_eq_false_iff_ne];omega
   have hT1:Tabs wr:=HT.out.step hbw
   clear htl ht
   generalize (enc c).length=L at*
   go_wp2_with fail
   refine (HF.out _ hT1).mono ?_
   rintro e w1 ⟨rfl,hb1⟩
   have hb1':=hbw.trans (hb1.mono hbw.size)
   have hown1:=own_below' hown hb1
   clear HF
   go_wp2_with fail
   refine (HC.out _).mono ?_
   rintro e w1' ⟨rfl,rfl⟩
   have hcap: ∀(x:Int),0≤x→x<65536→IntKind.i64.wrap x=x:=fun x h0 h1=>by rw[IntKind.wrap_i64];omega
   rcases hr with hr|⟨hr,hr2⟩
   ·go_wp2_with (first
     |(at_builtin;refine wpList_append_own _ rfl _ _ 34 rfl w.heap.size 3 i0 (.int .i64 0) 1 8 Tryz.underlying34 hi hz0 hz1 hz2 rfl (by decide) _ _ _ rfl (hown1.alloc _) ⟨w1'.heap.size,0,none⟩ 1 1 [.int .i64 c] rfl rfl ?_ ?_ ?_ ?_ ?_ ?_)
     |go_in)
    ·intro j u hj
     match j,hj with
     |0,hj=>simp at hj;subst hj;exact new_one _ _ _ _ rfl
    ·intro u hu;simp at hu;subst hu;rfl
    ·unfold maxLen;omega
    ·omega
    ·exact (hb1'.alloc hb1'.size _).size
    ·intro v' w2 hown' hgrow _
     have hb2:=(hb1'.alloc hb1'.size _).grown hgrow (hb1'.alloc hb1'.size _).size (fun j hj=>(hown1.lt j hj).1)
     go_wp2
     go_roundw
     case rel=>exact ⟨_,a++[c],b,rfl,by rw[hab];simp,hd,by rw[intsV_snoc,List.length_append];exact hown',hb2⟩
     case measure=>exact hm
   ·go_wp2_with (first
     |(at_builtin;refine wpList_append_own _ rfl _ _ 34 rfl w.heap.size 3 i0 (.int .i64 0) 1 8 Tryz.underlying34 hi hz0 hz1 hz2 rfl (by decide) _ _ _ rfl (hown1.alloc _) ⟨w1'.heap.size,0,none⟩ 1 1 [.int .i64 c] rfl rfl ?_ ?_ ?_ ?_ ?_ ?_)
     |go_in)
    ·intro j u hj
     match j,hj with
     |0,hj=>simp at hj;subst hj;exact new_one _ _ _ _ rfl
    ·intro u hu;simp at hu;subst hu;rfl
    ·unfold maxLen;omega
    ·omega
    ·exact (hb1'.alloc hb1'.size _).size
    ·intro v' w2 hown' hgrow _
     have hb2:=(hb1'.alloc hb1'.size _).grown hgrow (hb1'.alloc hb1'.size _).size (fun j hj=>(hown1.lt j hj).1)
     go_wp2
     go_roundw
     case rel=>exact ⟨_,a++[c],b,rfl,by rw[hab];simp,hd,by rw[intsV_snoc,List.length_append];exact hown',hb2⟩
     case measure=>exact hm
theorem foldl_max_le: ∀(l:List Int) (a b:Int),l.foldl max a≤b↔a≤b∧ ∀x∈l,x≤b
 |[],a,b=>by simp
 |x::l,a,b=>by
  rw[List.foldl_cons,foldl_max_le l]
  constructor
  ·rintro ⟨h1,h2⟩
   exact ⟨by omega,fun y hy=>by rcases List.mem_cons.1 hy with rfl|hy;omega;exact h2 y hy⟩
  ·rintro ⟨h1,h2⟩
   exact ⟨by have:=h2 x (by simp);omega,fun y hy=>h2 y (by simp[hy])⟩
theorem maxOf_wide(cs:List Nat)(h:cs≠[]):(Lib.maxOf (cs.map fun (n:Nat)=>(n:Int))≤255↔wide cs=1):=by
 unfold Lib.maxOf
 rw[foldl_max_le]
 unfold wide
 constructor
 ·rintro ⟨_,h2⟩
  rw[if_neg]
  rw[List.any_eq_true]
  rintro ⟨c,hc,hd⟩
  have:=h2 c (List.mem_map.2 ⟨c,hc,rfl⟩)
  simp at hd;omega
 ·intro h1
  have h2: ∀c∈cs,c≤255:=fun c hc=>by
   by_cases hle:c≤255
   ·exact hle
   ·rw[if_pos (List.any_eq_true.2 ⟨c,hc,by simp;omega⟩)] at h1
    omega
  refine ⟨?_,fun x hx=>by obtain ⟨c,hc,rfl⟩:=List.mem_map.1 hx;have:=h2 c hc;omega⟩
  cases cs with
  |nil=>exact absurd rfl h
  |cons c l=>have:=h2 c (by simp);simp;omega
theorem p_compress(s:ByteArray)(cs:List Nat)(w:World)(hT:Tabs w)(hs:s.data.toList=encs cs)(hc: ∀c∈cs,isChar c=true)(hz:s.size≤65536):
 Calls Tryz.prog 217 #[.string s] w fun e w'=> ∃t:ByteArray,e= .returned (.tuple #[.string t, .int .i64 0])∧t.size=sqz cs∧Below w.heap.size w w':=by
 have HC:=hQ (p_chars s cs w hT hs hc hz)
 have hcl:cs.length≤65536:=by have:=(encs_len cs).1;rw[←hs,len_data] at this;omega
 have hs0:(s.size:Int)≤65536:=by omega
 by_cases h0:cs=[]
 ·subst h0
  clear hs hT
  go_enter Tryz.func217,Tryz.ntmps217
  go_wp2_with fail
  refine HC.out.mono ?_
  rintro e w1 ⟨v,rfl,hown,hb1⟩
  obtain ⟨a,c,rfl⟩: ∃(a:Option Addr) (c:Nat),v= .slice a 0 c:=by
   rcases hown.2 with ⟨rfl,h0⟩|⟨g,cap,cur,rfl,_⟩
   ·exact ⟨none,0,rfl⟩
   ·exact ⟨_,_,rfl⟩
  clear hown
  go_wp2
  go_ret2
  exact ⟨_,rfl,rfl,hb1⟩
 ·have hl0:0<cs.length:=List.length_pos_iff.2 h0
  have hne:((cs.length:Int)==0)=false:=by rw[beq_eq_false_iff_ne];omega
  have HQ1:=hQ (fun (v:Value) (W:World) (h:W.ownsRow w.heap.size 3 1 v cs.length (intsV cs))=>p_comp1 cs _ v W h hc hcl h0)
  have HQ2:=hQ (fun (v:Value) (W:World) (h:W.ownsRow w.heap.size 3 1 v cs.length (intsV cs))=>p_comp2 cs _ v W h hc hcl h0)
  have hsq:sqz cs=1+cs.length*wide cs:=by unfold sqz;rw[if_neg (by rw[List.isEmpty_iff];exact h0)]
  have hmx:=maxOf_wide cs h0
  have hw:=wide_le cs
  have HMX:=hQ (fun (g cap:Nat) (W:World) (hcell: ∀k,(hk:k<cs.length)→W.cell? ⟨g,k,none⟩=some (.int .i64 (cs[k]:Nat)))=>Tryz.slices_Max_int g 0 cs.length cap (cs.map fun (n:Nat)=>(n:Int)) W hl0 (by simp) (by omega) (by
   intro j hj
   have hj':j<cs.length:=by simpa using hj
   rw[Nat.zero_add,hcell j hj',List.getD,List.getElem?_map,List.getElem?_eq_getElem hj'];rfl))
  rw[List.take_of_length_le (by simp)] at HMX
  have HSQ:=hQ hsq
  have HMW:=hQ hmx
  generalize Lib.maxOf (cs.map fun (n:Nat)=>(n:Int))=M at*
  clear hs hT hc hsq hmx h0
  go_enter Tryz.func217,Tryz.ntmps217
  go_wp2_with fail
  refine HC.out.mono ?_
  rintro e w1 ⟨v,rfl,hown,hb1⟩
  have hown':=hown
  rcases own_cases hown with ⟨rfl,h2⟩|⟨g,cap,rfl,hg,_,hcell⟩
  ·subst h2;exact absurd hl0 (by simp)
  ·have HCell:=hQ hcell
   have HOwn:=hQ hown'
   clear hcell hown' hown
   go_wp2_with fail
   refine (HMX.out g cap _ HCell.out).mono ?_
   rintro e w2 ⟨rfl,rfl⟩
   by_cases h1:M≤255
   ·have hw1:=HMW.out.1 h1
    have HW1:=hQ hw1
    clear hw1
    go_wp2_with fail
    refine (HQ1.out _ _ HOwn.out).mono ?_
    rintro e w3 ⟨t,rfl,ht,hb3⟩
    go_wp2
    go_ret2
    exact ⟨_,rfl,by rw[ht,HSQ.out,HW1.out],hb1.trans (hb3.mono hb1.size)⟩
   ·have hw1:wide cs=2:=by
     have: ¬wide cs=1:=fun e=>h1 (HMW.out.2 e)
     omega
    have HW1:=hQ hw1
    clear hw1
    go_wp2_with fail
    refine (HQ2.out _ _ HOwn.out).mono ?_
    rintro e w3 ⟨t,rfl,ht,hb3⟩
    go_wp2
    go_ret2
    exact ⟨_,rfl,by rw[ht,HSQ.out,HW1.out],hb1.trans (hb3.mono hb1.size)⟩
theorem contains_index: ∀(l:List UInt8) (b:UInt8),decide (0≤Lib.indexByte l b)=l.contains b
 |[],b=>rfl
 |x::l,b=>by
  have ih:=contains_index l b
  have hge:=Lib.indexByte_ge l b
  rw[Lib.indexByte,List.contains_cons, ←ih]
  by_cases h:x=b
  ·subst h;simp
  ·have h1:(x==b)=false:=by rw[beq_eq_false_iff_ne];exact h
   have h2:(b==x)=false:=by rw[beq_eq_false_iff_ne];exact fun e=>h e.symm
   rw[h1,h2]
   by_cases h3:Lib.indexByte l b= -1
   ·rw[h3];rfl
   ·have h4:(Lib.indexByte l b== -1)=false:=by rw[beq_eq_false_iff_ne];exact h3
    rw[h4]
    simp only[Bool.false_eq_true,if_false,Bool.false_or]
    rw[decide_eq_true (show (0:Int)≤Lib.indexByte l b+1 by omega),decide_eq_true (show (0:Int)≤Lib.indexByte l b by omega)]
theorem p_name14(s:ByteArray)(cs:List Nat)(w:World)(hT:Tabs w)(hs:s.data.toList=encs cs)(hc: ∀c∈cs,isChar c=true)(hz:s.size≤65536):
 Calls Tryz.prog 209 #[.string s] w fun e w'=>e= .returned (.bool (goodCs cs))∧Below w.heap.size w w':=by
 by_cases hd1:encs cs=[46]
 ·have hg:goodCs cs=false:=by unfold goodCs;rw[hd1];rfl
  rw[hg]
  have hd:s.toList=[46]:=by rw[ByteArray.toList_eq,hs,hd1]
  go_enter Tryz.func209,Tryz.ntmps209
  go_wp2
  go_ret
  exact ⟨rfl,Below.refl _ _⟩
 ·have hb1:(s.toList==[46])=false:=by rw[ByteArray.toList_eq,hs,beq_eq_false_iff_ne];exact hd1
  by_cases hd2:encs cs=[46,46]
  ·have hg:goodCs cs=false:=by unfold goodCs;rw[hd2];rfl
   rw[hg]
   have hd:s.toList=[46,46]:=by rw[ByteArray.toList_eq,hs,hd2]
   go_enter Tryz.func209,Tryz.ntmps209
   go_wp2
   go_ret
   exact ⟨rfl,Below.refl _ _⟩
  ·have hb2:(s.toList==[46,46])=false:=by rw[ByteArray.toList_eq,hs,beq_eq_false_iff_ne];exact hd2
   have HG:=hQ (show goodCs cs=(!(s.data.toList).contains 47&&(decide (1≤cs.length)&&decide (cs.length≤64))) by
    rw[hs];unfold goodCs;rw[decide_eq_true hd1,decide_eq_true hd2,Bool.true_and,Bool.true_and])
   have HC:=hQ (fun (W:World) (hW:Tabs W)=>p_chars s cs W hW hs hc hz)
   have HS:=hQ (fun W:World=>Tryz.strings_Contains_one s 47 W)
   rw[contains_index] at HS
   generalize s.data.toList.contains 47=sl at*
   clear hd1 hd2 hs hc
   have HT:=hQ hT
   clear hT
   go_enter Tryz.func209,Tryz.ntmps209
   go_wp2_with fail
   refine (HS.out _).mono ?_
   rintro e w0 ⟨rfl,rfl⟩
   cases sl
   ·have HX:Hid (goodCs cs=(decide (1≤cs.length)&&decide (cs.length≤64))):=by
     show _=_
     rw[HG.out];rfl
    go_wp2_with fail
    refine (HC.out _ HT.out).mono ?_
    rintro e w1 ⟨v,rfl,hown,hb1⟩
    have hE: ∃(a:Option Addr) (c:Nat),v= .slice a cs.length c:=by
     rcases hown.2 with ⟨rfl,h0⟩|⟨g,cap,cur,rfl,_⟩
     ·exact ⟨none,0,by rw[h0]⟩
     ·exact ⟨_,_,rfl⟩
    obtain ⟨a,c,rfl⟩:=hE
    clear hown
    have e2:decide ((cs.length:Int)≤64)=decide (cs.length≤64):=by rw[Bool.eq_iff_iff];simp;omega
    by_cases h1:1≤cs.length
    ·have h1':(1:Int)≤cs.length:=by omega
     go_wp2
     go_ret
     exact ⟨ret_bool' (by rw[HX.out,decide_eq_true h1,Bool.true_and, ←e2]),hb1⟩
    ·have h1':decide ((1:Int)≤cs.length)=false:=by simp;omega
     go_wp2
     go_ret
     exact ⟨ret_bool' (by rw[HX.out,decide_eq_false h1,Bool.false_and]),hb1⟩
   ·have HX:Hid (goodCs cs=false):=by
     show _=_
     rw[HG.out];rfl
    go_wp2
    go_ret
    exact ⟨ret_bool' HX.out.symm,Below.refl _ _⟩
end Go.Proofs.YtbeccmkegckjjaaGreatDoor
end
