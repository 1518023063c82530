/- Law 43, UdfbuildSizes: a part of the proof. -/
import Derived.Test.YtbeccmkegckjjaaGreatDoorQ06
import Derived.Test.YtbeccmkegckjjaaGreatDoorQ03
import Derived.Lib.Hide
import Derived.OwnWalk
import Derived.Deep.QuietTactic
import Derived.BigQuiet
set_option linter.unusedVariables false
set_option linter.ambiguousOpen false
set_option linter.unusedSimpArgs false
section
namespace Go.Proofs.YtbeccmkegckjjaaGreatDoor
open Go.RowKit
set_option maxRecDepth 1000000
set_option maxHeartbeats 1600000
def Box(ty:TypeId)(g:Nat)(vs:List Value)(wx:World):Prop:=wx.heap[g]? =some (.cells vs.toArray ty (0,0))
theorem Box.lt{ty:TypeId}{g:Nat}{vs:List Value}{wx:World}(h:Box ty g vs wx):g<wx.heap.size:=(Array.getElem?_eq_some_iff.1 h).1
theorem Box.cell{ty:TypeId}{g:Nat}{vs:List Value}{wx:World}(h:Box ty g vs wx)(k:Nat)(v:Value)(hv:vs[k]? =some v):wx.cell? ⟨g,k,none⟩=some v:=by
 rw[cell_of_row _ _ k _ _ (0,0) h];simpa using hv
theorem Box.step{ty:TypeId}{g:Nat}{vs:List Value}{wx w':World}(h:Box ty g vs wx)(hb:Below wx.heap.size wx w'):Box ty g vs w':=(hb.block g h.lt).trans h
theorem Box.new{ty:TypeId}(w:World)(vs:List Value):Box ty w.heap.size vs (w.alloc (.cells vs.toArray ty)):=by
 show (w.heap.push _)[w.heap.size]? =_
 simp
theorem ret_intB{k:IntKind}{a b:Int}(h:a=b):Ending.returned (.int k a)= .returned (.int k b):=by rw[h]
theorem node_size:(Tryz.prog.info? 25).map (·.size)=some 12:=by kernel_rfl
theorem below_alloc1(w:World)(o:Obj):Below w.heap.size w (w.alloc o):=(Below.refl _ _).alloc (Nat.le_refl _) o
theorem w64{x:Int}(h0:0≤x)(h1:x≤4611686018427387904):wrap64 x=x:=by unfold wrap64;omega
theorem int_eq{a:Int}{b:Nat}(h:a=b)(hb:b≤9223372036854775807):Value.int .i64 (wrap64 a)= .int .i64 (b:Int):=by
 subst h
 have e:wrap64 (b:Int)=b:=by unfold wrap64;omega
 rw[e]
theorem ntCount_pos: ∀(n:Nat) (t:NT n),1≤ntCount n t
 |0,t=>nomatch t
 |_+1,_=>Nat.le_add_right 1 _
theorem len_le_sum{α:Type}(f:α→Nat)(h: ∀x,1≤f x): ∀l:List α,l.length≤(l.map f).sum
 |[]=>Nat.le_refl _
 |x::l=>by have:=len_le_sum f h l;have:=h x;simp only[List.map_cons,List.sum_cons,List.length_cons];omega
theorem r_count18: ∀(n:Nat) (t:NT n) (vs:List Value) (B:Nat) (w:World),NodeV w (· < B) n t vs→B≤w.heap.size→ntCount n t≤1099511627776→
 Calls Tryz.prog 39 #[.agg vs.toArray] w fun e w'=>e= .returned (.int .i64 ((ntCount n t:Nat):Int))∧Below w.heap.size w w'
 |0,_,_,_,_,h,_,_=>h.elim
 |n+1,t,vs,B,w,h,hB,hc=>by
  obtain ⟨kv,sv,kcs,rfl,_,hkv,hl,hk⟩:=h
  obtain ⟨a,c,rfl,hrow⟩:=hkv
  have hcnt:ntCount (n+1) t=1+(t.2.map (ntCount n)).sum:=rfl
  rw[hcnt] at hc ⊢
  have HB0:=hQ (Box.new (ty:=25) w (nfCells t.1 (.slice a kcs.length c) sv))
  have IH:=hQ (r_count18 n)
  have HK:=hQ hk
  have HROW:=hQ hrow
  have HL:=hQ hl
  have HC:=hQ hc
  obtain ⟨f,kids⟩:=t
  have hkl:kids.length≤1099511627776:=Nat.le_trans (len_le_sum (ntCount n) (ntCount_pos n) kids) (by have:=HC.out;simp only at this;omega)
  clear hk hrow hl hc hcnt
  unfold nfCells
  go_enter Tryz.func39,Tryz.ntmps39
  go_wp2_with fail
  go_loopw [3,4] (fun s i wr=> ∃k:Nat,k≤kids.length∧i= .int .i64 k∧s= .int .i64 ((1+((kids.take k).map (ntCount n)).sum:Nat):Int)∧Below w.heap.size w wr∧Box 25 w.heap.size (nfCells f (.slice a kcs.length c) sv) wr) (fun _ i _=>kids.length-(intOf i).toNat)
  case atStart=>exact ⟨0,Nat.zero_le _,rfl,by simp,below_alloc1 _ _,HB0.out⟩
  case round=>
   obtain ⟨k,hk,rfl,rfl,hbw,hbox⟩:=hrel
   have c10:=hbox.cell 10 _ rfl
   by_cases hlt:k<kids.length
   ·have hlt':k<kcs.length:=by rw[HL.out];exact hlt
    have hi:(k:Int)<kcs.length:=by omega
    obtain ⟨b,off,rfl,hbB,hcell⟩:=HROW.out k hlt'
    have hnode:=(HK.out k hlt hlt').below (hbw.mono hB)
    have hlen:=hnode.len
    have hcell': ∀j x,kcs[k][j]? =some x→wr.cell? ⟨b,off+k*12+j,none⟩=some x:=fun j x hx=>(hbw.cell (Nat.lt_of_lt_of_le hbB hB)).trans (hcell j x hx)
    have hsz:B≤wr.heap.size:=Nat.le_trans hB hbw.size
    have hle:ntCount n kids[k]≤(kids.map (ntCount n)).sum:=by
     have h1:=sum_take (ntCount n) kids k hlt
     have h2:=sum_take_le (ntCount n) kids (k+1)
     omega
    have hsum:=sum_take (ntCount n) kids k hlt
    have hsum2:=sum_take_le (ntCount n) kids (k+1)
    have hcc:=HC.out
    have HCALL:=hQ (IH.out kids[k] kcs[k] B wr hnode hsz (by omega))
    have HSUM:=hQ hsum
    have HS2:=hQ hsum2
    have HN:=hQ hlen
    clear hnode hcell hsum hsum2 hlen hle hcc
    generalize kcs[k]=cs at*
    generalize ntCount n kids[k]=m at*
    generalize hS:((kids.take k).map (ntCount n)).sum=S at*
    go_wp2_with (first
     |(refine wpList_load_at rfl _ _ rfl b (off+k*12) cs _ rfl hcell' Tryz.underlying25 rfl (by rw[HN.out];exact node_size) ?_)
     |(go_at_call 39;refine HCALL.out.mono ?_;rintro e w5 ⟨rfl,hb5⟩)
     |go_in)
    go_roundw
    case rel=>
     have h1:=HC.out
     have h2:=HS2.out
     rw[HSUM.out] at h2
     exact ⟨k+1,by omega,by go_num,int_eq (by rw[HSUM.out];omega) (by rw[HSUM.out];omega),hbw.trans (hb5.mono hbw.size),hbox.step hb5⟩
    case measure=>simp[intOf];omega
   ·have hk':k=kids.length:=by omega
    have hl':=HL.out
    have hke:kids.take k=kids:=by rw[hk'];exact List.take_length
    rw[hke]
    have hi:(kcs.length:Int)≤k:=by omega
    go_wp2
    go_ret
    exact ⟨rfl,hbw⟩
end Go.Proofs.YtbeccmkegckjjaaGreatDoor
end
section
namespace Go.Proofs.YtbeccmkegckjjaaGreatDoor
open Go.RowKit
set_option maxRecDepth 1000000
set_option maxHeartbeats 1600000
def knownK(k:Int):Bool:=decide (0≤k)&&decide (k≤3)
def outside(n:Nat):Nat:=if n≤1872 then 0 else (n+2047) / 2048
def roundedU(n:Nat):Nat:=if 4096<n then 0 else (n+7) / 8*8
theorem knownK_cases(k:Int):(k<0∧knownK k=false)∨(3<k∧knownK k=false)∨(0≤k∧k≤3∧knownK k=true):=by
 unfold knownK
 by_cases h:0≤k <;> by_cases h2:k≤3 <;> simp[h,h2] <;> omega
theorem p_known(k:Int)(w:World):Calls Tryz.prog 13 #[.int .i64 k] w fun e w'=>e= .returned (.bool (knownK k))∧w'=w:=by
 rcases knownK_cases k with ⟨h1,h⟩|⟨h1,h⟩|⟨h1,h2,h⟩
 all_goals
  rw[h]
  clear h
  try have d3:decide (k≤3)=false:=decide_eq_false (by omega)
  try have d4:decide (k≤3)=true:=decide_eq_true (by omega)
  go_enter Tryz.func13,Tryz.ntmps13
  go_wp2
  go_ret
  exact ⟨rfl,rfl⟩
theorem r_kind(k:Int)(w:World):Calls Tryz.prog 18 #[.int .i64 k] w fun e w'=>e= .returned (.bool (knownK k))∧w'=w:=by
 rcases knownK_cases k with ⟨h1,h⟩|⟨h1,h⟩|⟨h1,h2,h⟩
 all_goals
  rw[h]
  clear h
  try have d3:decide (k≤3)=false:=decide_eq_false (by omega)
  try have d4:decide (k≤3)=true:=decide_eq_true (by omega)
  go_enter Tryz.func18,Tryz.ntmps18
  go_wp2
  go_ret
  exact ⟨rfl,rfl⟩
theorem p_exists(w:World):Calls Tryz.prog 213 #[.int .i64 3] w fun e w'=>e= .returned (.bool true)∧w'=w:=by
 go_enter Tryz.func213,Tryz.ntmps213
 go_wp2
 go_ret
 exact ⟨rfl,rfl⟩
theorem r_exists(w:World):Calls Tryz.prog 122 #[.int .i64 3] w fun e w'=>e= .returned (.bool true)∧w'=w:=by
 go_enter Tryz.func122,Tryz.ntmps122
 go_wp2
 go_ret
 exact ⟨rfl,rfl⟩
theorem p_blocks(n:Nat)(w:World)(h:n<4294967296):Calls Tryz.prog 57 #[.int .i64 n] w fun e w'=>e= .returned (.int .i64 (((n+2047) / 2048:Nat):Int))∧w'=w:=by
 have h':(n:Int)<4294967296:=by omega
 go_enter Tryz.func57,Tryz.ntmps57
 go_wp2
 go_ret
 exact ⟨ret_int (by omega),rfl⟩
theorem r_count33(n:Nat)(w:World)(h:n<4294967296):Calls Tryz.prog 125 #[.int .i64 n] w fun e w'=>e= .returned (.int .i64 (((n+2047) / 2048:Nat):Int))∧w'=w:=by
 have h':(n:Int)<4294967296:=by omega
 go_enter Tryz.func125,Tryz.ntmps125
 go_wp2
 go_ret
 exact ⟨ret_int (by omega),rfl⟩
theorem p_outer(n:Nat)(w:World)(h:n<4294967296):Calls Tryz.prog 120 #[.int .i64 n] w fun e w'=>e= .returned (.int .i64 ((outside n:Nat):Int))∧w'=w:=by
 have HB:=hQ (fun W:World=>p_blocks n W h)
 unfold outside
 by_cases hn:n≤1872
 ·rw[if_pos hn]
  have hn':(n:Int)≤1872:=by omega
  go_enter Tryz.func120,Tryz.ntmps120
  go_wp2
  go_ret
  exact ⟨rfl,rfl⟩
 ·rw[if_neg hn]
  have hn':(1872:Int)<n:=by omega
  generalize (n+2047) / 2048=q at*
  go_enter Tryz.func120,Tryz.ntmps120
  go_wp2_with (go_at_call 57;refine (HB.out _).mono ?_;rintro e w5 ⟨rfl,rfl⟩)
  go_ret
  exact ⟨rfl,rfl⟩
theorem r_outside(n:Nat)(w:World)(h:n<4294967296):Calls Tryz.prog 51 #[.int .i64 n] w fun e w'=>e= .returned (.int .i64 ((outside n:Nat):Int))∧w'=w:=by
 have HB:=hQ (fun W:World=>r_count33 n W h)
 unfold outside
 by_cases hn:n≤1872
 ·rw[if_pos hn]
  have hn':(n:Int)≤1872:=by omega
  go_enter Tryz.func51,Tryz.ntmps51
  go_wp2
  go_ret
  exact ⟨rfl,rfl⟩
 ·rw[if_neg hn]
  have hn':(1872:Int)<n:=by omega
  generalize (n+2047) / 2048=q at*
  go_enter Tryz.func51,Tryz.ntmps51
  go_wp2_with (go_at_call 125;refine (HB.out _).mono ?_;rintro e w5 ⟨rfl,rfl⟩)
  go_ret
  exact ⟨rfl,rfl⟩
theorem p_rounded40(n:Nat)(w:World)(h:n<4294967296):Calls Tryz.prog 121 #[.int .i64 n] w fun e w'=>e= .returned (.int .i64 ((roundedU n:Nat):Int))∧w'=w:=by
 unfold roundedU
 by_cases hn:4096<n
 ·rw[if_pos hn]
  have hn':(4096:Int)<n:=by omega
  go_enter Tryz.func121,Tryz.ntmps121
  go_wp2
  go_ret
  exact ⟨rfl,rfl⟩
 ·rw[if_neg hn]
  have hn':(n:Int)≤4096:=by omega
  go_enter Tryz.func121,Tryz.ntmps121
  go_wp2
  go_ret
  exact ⟨ret_int (by omega),rfl⟩
theorem r_rounded40(n:Nat)(w:World)(h:n<4294967296):Calls Tryz.prog 54 #[.int .i64 n] w fun e w'=>e= .returned (.int .i64 ((roundedU n:Nat):Int))∧w'=w:=by
 unfold roundedU
 by_cases hn:4096<n
 ·rw[if_pos hn]
  have hn':(4096:Int)<n:=by omega
  go_enter Tryz.func54,Tryz.ntmps54
  go_wp2
  go_ret
  exact ⟨rfl,rfl⟩
 ·rw[if_neg hn]
  have hn':(n:Int)≤4096:=by omega
  go_enter Tryz.func54,Tryz.ntmps54
  go_wp2
  go_ret
  exact ⟨ret_int (by omega),rfl⟩
theorem p_below(path name:ByteArray)(l:Nat)(w:World)(h:l<4294967296)(hz:path.size+name.size<4294967296):Calls Tryz.prog 208 #[.string path, .string name, .int .i64 l] w fun e w'=>(∃s:ByteArray,e= .returned (.string s)∧s.size≤path.size+name.size+1)∧w'=w:=by
 by_cases hl:l≤2
 ·have hl':(l:Int)≤2:=by omega
  skip
  go_enter Tryz.func208,Tryz.ntmps208
  go_wp2
  go_ret
  exact ⟨⟨_,rfl,by omega⟩,rfl⟩
 ·have hl':(2:Int)<l:=by omega
  go_enter Tryz.func208,Tryz.ntmps208
  go_wp2
  go_ret
  exact ⟨⟨_,rfl,by rw[ByteArray.size_append,ByteArray.size_append,show (⟨#[47]⟩:ByteArray).size=1 from rfl];omega⟩,rfl⟩
theorem r_below(path name:ByteArray)(l:Nat)(w:World)(h:l<4294967296)(hz:path.size+name.size<4294967296):Calls Tryz.prog 357 #[.string path, .string name, .int .i64 l] w fun e w'=>(∃s:ByteArray,e= .returned (.string s)∧s.size≤path.size+name.size+1)∧w'=w:=by
 by_cases hl:l=1
 ·have hl':(l:Int)=1:=by omega
  subst hl
  go_enter Tryz.func357,Tryz.ntmps357
  go_wp2
  go_ret
  exact ⟨⟨_,rfl,by omega⟩,rfl⟩
 ·have hl':((l:Int)==1)=false:=by rw[beq_eq_false_iff_ne];omega
  go_enter Tryz.func357,Tryz.ntmps357
  go_wp2
  go_ret
  exact ⟨⟨_,rfl,by rw[ByteArray.size_append,ByteArray.size_append,show (⟨#[47]⟩:ByteArray).size=1 from rfl];omega⟩,rfl⟩
end Go.Proofs.YtbeccmkegckjjaaGreatDoor
end
section
namespace Go.Proofs.YtbeccmkegckjjaaGreatDoor
open Go.RowKit
set_option maxRecDepth 1000000
set_option maxHeartbeats 1600000
theorem foldl_take'{α σ:Type}(f:σ→α→σ)(l:List α)(s:σ)(k:Nat)(h:k<l.length):(l.take (k+1)).foldl f s=f ((l.take k).foldl f s) l[k]:=by
 rw[List.take_succ_eq_append_getElem h,List.foldl_append];rfl
theorem foldmax_le(l:List Nat)(b:Nat): ∀a,a≤b→(∀x∈l,x≤b)→l.foldl max a≤b:=by
 induction l with
 |nil=>intro a h _;exact h
 |cons x l ih=>intro a h h2;exact ih _ (Nat.max_le.2 ⟨h,h2 x (by simp)⟩) fun y hy=>h2 y (by simp[hy])
theorem ntLevels_le: ∀(n:Nat) (t:NT n),ntLevels n t≤n
 |0,t=>nomatch t
 |n+1,t=>by
  have:(t.2.map (ntLevels n)).foldl max 0≤n:=foldmax_le _ _ _ (Nat.zero_le _) fun x hx=>by
   obtain ⟨k,_,rfl⟩:=List.mem_map.1 hx
   exact ntLevels_le n k
  show _+1≤n+1
  omega
theorem r_levels18: ∀(n:Nat) (t:NT n) (vs:List Value) (B:Nat) (w:World),NodeV w (· < B) n t vs→B≤w.heap.size→ntCount n t≤1099511627776→n≤1099511627776→
 Calls Tryz.prog 40 #[.agg vs.toArray] w fun e w'=>e= .returned (.int .i64 ((ntLevels n t:Nat):Int))∧Below w.heap.size w w'
 |0,_,_,_,_,h,_,_,_=>h.elim
 |n+1,t,vs,B,w,h,hB,hc,hn=>by
  obtain ⟨kv,sv,kcs,rfl,_,hkv,hl,hk⟩:=h
  obtain ⟨a,c,rfl,hrow⟩:=hkv
  have hcnt:ntCount (n+1) t=1+(t.2.map (ntCount n)).sum:=rfl
  rw[hcnt] at hc
  have hlv:ntLevels (n+1) t=(t.2.map (ntLevels n)).foldl max 0+1:=rfl
  rw[hlv]
  have HB0:=hQ (Box.new (ty:=25) w (nfCells t.1 (.slice a kcs.length c) sv))
  have IH:=hQ (r_levels18 n)
  have HK:=hQ hk
  have HROW:=hQ hrow
  have HL:=hQ hl
  have HC:=hQ hc
  have HN':=hQ hn
  obtain ⟨f,kids⟩:=t
  have hkl:kids.length≤1099511627776:=Nat.le_trans (len_le_sum (ntCount n) (ntCount_pos n) kids) (by have:=HC.out;simp only at this;omega)
  clear hk hrow hl hc hcnt hlv
  unfold nfCells
  go_enter Tryz.func40,Tryz.ntmps40
  go_wp2_with fail
  go_loopw [3,4] (fun s i wr=> ∃k:Nat,k≤kids.length∧i= .int .i64 k∧s= .int .i64 ((((kids.take k).map (ntLevels n)).foldl max 0:Nat):Int)∧Below w.heap.size w wr∧Box 25 w.heap.size (nfCells f (.slice a kcs.length c) sv) wr) (fun _ i _=>kids.length-(intOf i).toNat)
  case atStart=>exact ⟨0,Nat.zero_le _,rfl,by simp,below_alloc1 _ _,HB0.out⟩
  case round=>
   obtain ⟨k,hk,rfl,rfl,hbw,hbox⟩:=hrel
   have c10:=hbox.cell 10 _ rfl
   have hSn:((kids.take k).map (ntLevels n)).foldl max 0≤n:=foldmax_le _ _ _ (Nat.zero_le _) fun x hx=>by
    obtain ⟨y,_,rfl⟩:=List.mem_map.1 hx
    exact ntLevels_le n y
   by_cases hlt:k<kids.length
   ·have hlt':k<kcs.length:=by rw[HL.out];exact hlt
    have hi:(k:Int)<kcs.length:=by omega
    obtain ⟨b,off,rfl,hbB,hcell⟩:=HROW.out k hlt'
    have hnode:=(HK.out k hlt hlt').below (hbw.mono hB)
    have hlen:=hnode.len
    have hcell': ∀j x,kcs[k][j]? =some x→wr.cell? ⟨b,off+k*12+j,none⟩=some x:=fun j x hx=>(hbw.cell (Nat.lt_of_lt_of_le hbB hB)).trans (hcell j x hx)
    have hsz:B≤wr.heap.size:=Nat.le_trans hB hbw.size
    have hcc:=HC.out
    have h1:=sum_take (ntCount n) kids k hlt
    have h2:=sum_take_le (ntCount n) kids (k+1)
    have HCALL:=hQ (IH.out kids[k] kcs[k] B wr hnode hsz (by omega) (by omega))
    have hln:=ntLevels_le n kids[k]
    have HSUM:=hQ (show ((kids.take (k+1)).map (ntLevels n)).foldl max 0=max (((kids.take k).map (ntLevels n)).foldl max 0) (ntLevels n kids[k]) by
     rw[List.take_succ_eq_append_getElem hlt,List.map_append,List.foldl_append];rfl)
    have HN:=hQ hlen
    clear hnode hcell hlen hcc h1 h2
    generalize kcs[k]=cs at*
    generalize ntLevels n kids[k]=m at*
    generalize hS:((kids.take k).map (ntLevels n)).foldl max 0=S at*
    go_wp2_with (first
     |(refine wpList_load_at rfl _ _ rfl b (off+k*12) cs _ rfl hcell' Tryz.underlying25 rfl (by rw[HN.out];exact node_size) ?_)
     |(go_at_call 40;refine HCALL.out.mono ?_;rintro e w5 ⟨rfl,hb5⟩)
     |go_in)
    go_roundw
    case rel=>exact ⟨k+1,by omega,by go_num,by rw[HSUM.out];first|rfl|(congr 1;omega),hbw.trans (hb5.mono hbw.size),hbox.step hb5⟩
    case measure=>simp[intOf];omega
   ·have hk':k=kids.length:=by omega
    have hl':=HL.out
    have hke:kids.take k=kids:=by rw[hk'];exact List.take_length
    rw[hke] at hSn ⊢
    have hi:(kcs.length:Int)≤k:=by omega
    go_wp2
    go_ret
    exact ⟨ret_intB (by omega),hbw⟩
end Go.Proofs.YtbeccmkegckjjaaGreatDoor
end
section
namespace Go.Proofs.YtbeccmkegckjjaaGreatDoor
open Go.RowKit
set_option maxRecDepth 1000000
set_option maxHeartbeats 1600000
def strSum(l:List (ByteArray × ByteArray)):Nat:=(l.map fun s=>20+s.1.size+s.2.size).sum
theorem strCells_len(l:List (ByteArray × ByteArray)):(strCells l).length=l.length:=by simp[strCells]
theorem strCells_get(l:List (ByteArray × ByteArray))(k:Nat)(h:k<l.length)(h':k<(strCells l).length):(strCells l)[k]=[.string l[k].1, .string l[k].2]:=by simp[strCells]
theorem add3(F S a b:Nat)(h:F+(S+(20+a+b))≤1099511627776):wrap64 (wrap64 (wrap64 ((F:Int)+S+20)+a)+b)=((F+(S+(20+a+b)):Nat):Int):=by
 have h':(F:Int)+(S+(20+a+b))≤1099511627776:=by omega
 have e1:wrap64 ((F:Int)+S+20)=(F:Int)+S+20:=by unfold wrap64;omega
 rw[e1]
 have e2:wrap64 ((F:Int)+S+20+a)=(F:Int)+S+20+a:=by unfold wrap64;omega
 rw[e2]
 have e3:wrap64 ((F:Int)+S+20+a+b)=(F:Int)+S+20+a+b:=by unfold wrap64;omega
 rw[e3]
 omega
theorem r_size18: ∀(n:Nat) (t:NT n) (vs:List Value) (B:Nat) (w:World),NodeV w (· < B) n t vs→B≤w.heap.size→ntCount n t≤1099511627776→ntBytes n t≤1099511627776→
 Calls Tryz.prog 41 #[.agg vs.toArray] w fun e w'=>e= .returned (.int .i64 ((ntBytes n t:Nat):Int))∧Below w.heap.size w w'
 |0,_,_,_,_,h,_,_,_=>h.elim
 |n+1,t,vs,B,w,h,hB,hc,hz=>by
  obtain ⟨kv,sv,kcs,rfl,hsv,hkv,hl,hk⟩:=h
  obtain ⟨a,c,rfl,hrow⟩:=hkv
  obtain ⟨a2,c2,rfl,hrow2⟩:=hsv
  have hsl:=strCells_len t.1.streams
  rw[hsl]
  have HSL:=hQ hsl
  clear hsl
  have hcnt:ntCount (n+1) t=1+(t.2.map (ntCount n)).sum:=rfl
  rw[hcnt] at hc
  have hby:ntBytes (n+1) t=nfBytes t.1+(t.2.map (ntBytes n)).sum:=rfl
  rw[hby] at hz ⊢
  have hnf:nfBytes t.1=20+t.1.name.size+t.1.data.size+t.1.target.size+strSum t.1.streams:=rfl
  rw[hnf] at hz ⊢
  have HB0:=hQ (Box.new (ty:=25) w (nfCells t.1 (.slice a kcs.length c) (.slice a2 t.1.streams.length c2)))
  have IH:=hQ (r_size18 n)
  have HK:=hQ hk
  have HROW:=hQ hrow
  have HROW2:=hQ hrow2
  have HL:=hQ hl
  have HC:=hQ hc
  obtain ⟨f,kids⟩:=t
  dsimp only at hz HROW2 HB0 HSL ⊢
  have hkl:kids.length≤1099511627776:=Nat.le_trans (len_le_sum (ntCount n) (ntCount_pos n) kids) (by have:=HC.out;simp only at this;omega)
  have hsl2:f.streams.length≤1099511627776:=Nat.le_trans (len_le_sum (fun s=>20+s.1.size+s.2.size) (fun _=>by omega) f.streams) (by unfold strSum at hz;omega)
  generalize hF:20+f.name.size+f.data.size+f.target.size=F at*
  have hF':(20:Int)+f.name.size+f.data.size+f.target.size=F:=by omega
  clear hk hrow hl hc hcnt hby hnf hrow2
  unfold nfCells
  go_enter Tryz.func41,Tryz.ntmps41
  go_wp2_with fail
  go_loopw [3,4] (fun s i wr=> ∃k:Nat,k≤f.streams.length∧i= .int .i64 k∧s= .int .i64 ((F+strSum (f.streams.take k):Nat):Int)∧Below w.heap.size w wr∧Box 25 w.heap.size (nfCells f (.slice a kcs.length c) (.slice a2 f.streams.length c2)) wr) (fun _ i _=>f.streams.length-(intOf i).toNat)
  case atStart=>exact ⟨0,Nat.zero_le _,rfl,by simp[strSum],below_alloc1 _ _,HB0.out⟩
  case round=>
   obtain ⟨k,hk,rfl,rfl,hbw,hbox⟩:=hrel
   have c11:=hbox.cell 11 _ rfl
   by_cases hlt:k<f.streams.length
   ·have hi:(k:Int)<f.streams.length:=by omega
    obtain ⟨b,off,rfl,hbB,hcell⟩:=HROW2.out k (by have:=HSL.out;omega)
    rw[strCells_get _ _ hlt] at hcell
    have d0:wr.cell? ⟨b,off+k*2,none⟩=some (.string f.streams[k].1):=(hbw.cell (Nat.lt_of_lt_of_le hbB hB)).trans (hcell 0 _ rfl)
    have d1:=(hbw.cell (Nat.lt_of_lt_of_le hbB hB)).trans (hcell 1 _ rfl)
    have HSUM:=hQ (show strSum (f.streams.take (k+1))=strSum (f.streams.take k)+(20+f.streams[k].1.size+f.streams[k].2.size) from sum_take _ _ _ hlt)
    have HS2:=hQ (show strSum (f.streams.take (k+1))≤strSum f.streams from sum_take_le _ _ _)
    clear hcell
    generalize hst:f.streams[k]=st at*
    generalize hS:strSum (f.streams.take k)=S at*
    go_wp2_with fail
    go_quiet (fail)
    go_wp2
    go_roundw
    case rel=>
     have h2:=HS2.out
     rw[HSUM.out] at h2
     exact ⟨k+1,by omega,by go_num,by rw[HSUM.out,add3 F S st.1.size st.2.size (by omega)],below_drewN hbw _,hbox.step (below_drewN (Below.refl _ _) _)⟩
    case measure=>simp[intOf];omega
   ·have hk':k=f.streams.length:=by omega
    have hke:f.streams.take k=f.streams:=by rw[hk'];exact List.take_length
    rw[hke]
    have hi:(f.streams.length:Int)≤k:=by omega
    clear hk' hke hk hlt
    go_wp2
    generalize decide (k<f.streams.length)=dd
    clear hi
    go_loopw [3,5] (fun s i wr=> ∃k:Nat,k≤kids.length∧i= .int .i64 k∧s= .int .i64 ((F+strSum f.streams+((kids.take k).map (ntBytes n)).sum:Nat):Int)∧Below w.heap.size w wr∧Box 25 w.heap.size (nfCells f (.slice a kcs.length c) (.slice a2 f.streams.length c2)) wr) (fun _ i _=>kids.length-(intOf i).toNat)
    case atStart=>exact ⟨0,Nat.zero_le _,rfl,by simp,hbw,hbox⟩
    case round=>
     clear hbw hbox c11
     obtain ⟨k,hk,rfl,rfl,hbw,hbox⟩:=hrel
     have c10:=hbox.cell 10 _ rfl
     by_cases hlt:k<kids.length
     ·have hlt':k<kcs.length:=by rw[HL.out];exact hlt
      have hi:(k:Int)<kcs.length:=by omega
      obtain ⟨b,off,rfl,hbB,hcell⟩:=HROW.out k hlt'
      have hnode:=(HK.out k hlt hlt').below (hbw.mono hB)
      have hlen:=hnode.len
      have hcell': ∀j x,kcs[k][j]? =some x→wr.cell? ⟨b,off+k*12+j,none⟩=some x:=fun j x hx=>(hbw.cell (Nat.lt_of_lt_of_le hbB hB)).trans (hcell j x hx)
      have hsz:B≤wr.heap.size:=Nat.le_trans hB hbw.size
      have hcc:=HC.out
      have h1:=sum_take (ntCount n) kids k hlt
      have h2:=sum_take_le (ntCount n) kids (k+1)
      have h3:=sum_take (ntBytes n) kids k hlt
      have h4:=sum_take_le (ntBytes n) kids (k+1)
      have HCALL:=hQ (IH.out kids[k] kcs[k] B wr hnode hsz (by omega) (by omega))
      have HSUM:=hQ h3
      have HS2:=hQ h4
      have HN:=hQ hlen
      clear hnode hcell hlen hcc h1 h2 h3 h4
      generalize kcs[k]=cs at*
      generalize ntBytes n kids[k]=m at*
      generalize hS:((kids.take k).map (ntBytes n)).sum=S at*
      go_wp2_with (first
       |(refine wpList_load_at rfl _ _ rfl b (off+k*12) cs _ rfl hcell' Tryz.underlying25 rfl (by rw[HN.out];exact node_size) ?_)
       |(go_at_call 41;refine HCALL.out.mono ?_;rintro e w5 ⟨rfl,hb5⟩)
       |go_in)
      go_roundw
      case rel=>
       have h2:=HS2.out
       rw[HSUM.out] at h2
       exact ⟨k+1,by omega,by go_num,int_eq (by rw[HSUM.out];omega) (by rw[HSUM.out];omega),hbw.trans (hb5.mono hbw.size),hbox.step hb5⟩
      case measure=>simp[intOf];omega
     ·have hk':k=kids.length:=by omega
      have hl':=HL.out
      have hke:kids.take k=kids:=by rw[hk'];exact List.take_length
      rw[hke]
      have hi:(kcs.length:Int)≤k:=by omega
      go_wp2
      go_ret
      exact ⟨rfl,hbw⟩
end Go.Proofs.YtbeccmkegckjjaaGreatDoor
end
section
namespace Go.Proofs.YtbeccmkegckjjaaGreatDoor
open Go.RowKit
set_option maxRecDepth 1000000
set_option maxHeartbeats 1600000
def smallB(n:Nat)(t:NT n):Bool:=decide (ntCount n t≤40)&&(decide (ntLevels n t≤20)&&decide (ntBytes n t≤40000))
theorem NodeV.cells{w:World}{p:Nat→Prop}{n:Nat}{t:NT n}{vs:List Value}(h:NodeV w p n t vs): ∃(f:NF) (a a2:Option Addr) (l c l2 c2:Nat),vs=nfCells f (.slice a l c) (.slice a2 l2 c2):=by
 cases n with
 |zero=>exact h.elim
 |succ n=>
  obtain ⟨kv,sv,kcs,rfl,⟨a2,c2,rfl,_⟩,⟨a,c,rfl,_⟩,_⟩:=h
  exact ⟨_,_,_,_,_,_,_,rfl⟩
theorem NodeV.cellsF{w:World}{p:Nat→Prop}{n:Nat}{t:NT n}{vs:List Value}(h:NodeV w p n t vs): ∃(a a2:Option Addr) (l c l2 c2:Nat),vs=nfCells (ntF n t) (.slice a l c) (.slice a2 l2 c2):=by
 cases n with
 |zero=>exact h.elim
 |succ n=>
  obtain ⟨kv,sv,kcs,rfl,⟨a2,c2,rfl,_⟩,⟨a,c,rfl,_⟩,_⟩:=h
  exact ⟨_,_,_,_,_,_,rfl⟩
theorem name_le_bytes: ∀(n:Nat) (t:NT n),20+(ntF n t).name.size≤ntBytes n t
 |0,t=>nomatch t
 |n+1,t=>by
  show 20+t.1.name.size≤nfBytes t.1+_
  unfold nfBytes
  omega
theorem kid_bytes{n:Nat}{f:NF}{kids:List (NT n)}{k:Nat}(hk:k<kids.length):ntBytes n kids[k]≤ntBytes (n+1) (f,kids):=by
 have h1:=sum_take (ntBytes n) kids k hk
 have h2:=sum_take_le (ntBytes n) kids (k+1)
 show _≤nfBytes f+(kids.map (ntBytes n)).sum
 omega
theorem Box.all{g:Nat}{f:NF}{kv sv:Value}{wx:World}(h:Box 25 g (nfCells f kv sv) wx):
 wx.cell? ⟨g,0,none⟩=some (.string f.name)∧wx.cell? ⟨g,1,none⟩=some (.int .i64 f.kind)∧wx.cell? ⟨g,2,none⟩=some (.string f.data)∧wx.cell? ⟨g,3,none⟩=some (.string f.target)∧
 wx.cell? ⟨g,4,none⟩=some (.int .i64 f.mode)∧wx.cell? ⟨g,5,none⟩=some (.int .i64 f.uid)∧wx.cell? ⟨g,6,none⟩=some (.int .i64 f.gid)∧wx.cell? ⟨g,7,none⟩=some (.int .i64 f.time)∧
 wx.cell? ⟨g,8,none⟩=some (.int .i64 f.weight)∧wx.cell? ⟨g,9,none⟩=some (.int .i64 f.hidden)∧wx.cell? ⟨g,10,none⟩=some kv∧wx.cell? ⟨g,11,none⟩=some sv:=
 ⟨h.cell 0 _ rfl,h.cell 1 _ rfl,h.cell 2 _ rfl,h.cell 3 _ rfl,h.cell 4 _ rfl,h.cell 5 _ rfl,h.cell 6 _ rfl,h.cell 7 _ rfl,h.cell 8 _ rfl,h.cell 9 _ rfl,h.cell 10 _ rfl,h.cell 11 _ rfl⟩
theorem r_few18(n:Nat)(t:NT n)(vs:List Value)(B:Nat)(w:World)(h:NodeV w (· < B) n t vs)(hB:B≤w.heap.size)(hc:ntCount n t≤1099511627776)(hz:ntBytes n t≤1099511627776)(hn:n≤1099511627776):
 Calls Tryz.prog 12 #[.agg vs.toArray, .int .i64 40000] w fun e w'=>e= .returned (.bool (smallB n t))∧Below w.heap.size w w':=by
 have HC:=hQ (fun (W:World) (hb:Below w.heap.size w W)=>r_count18 n t vs B W (h.below (hb.mono hB)) (Nat.le_trans hB hb.size) hc)
 have HLv:=hQ (fun (W:World) (hb:Below w.heap.size w W)=>r_levels18 n t vs B W (h.below (hb.mono hB)) (Nat.le_trans hB hb.size) hc hn)
 have HS:=hQ (fun (W:World) (hb:Below w.heap.size w W)=>r_size18 n t vs B W (h.below (hb.mono hB)) (Nat.le_trans hB hb.size) hc hz)
 have hlv:=ntLevels_le n t
 have HD:Hid (smallB n t=(decide (ntCount n t≤40)&&(decide (ntLevels n t≤20)&&decide (ntBytes n t≤40000)))):=rfl
 obtain ⟨f,a,a2,l,c,l2,c2,rfl⟩:=h.cells
 have HB0:=hQ (Box.new (ty:=25) w (nfCells f (.slice a l c) (.slice a2 l2 c2)))
 clear h
 generalize ntCount n t=cc at*
 generalize ntLevels n t=lc at*
 generalize ntBytes n t=zc at*
 generalize smallB n t=sm at*
 have hb0:=below_alloc1 w (.cells (nfCells f (.slice a l c) (.slice a2 l2 c2)).toArray 25)
 unfold nfCells at HC HLv HS hb0 ⊢
 by_cases h1:cc≤40
 ·have h1':(cc:Int)≤40:=by omega
  by_cases h2:lc≤20
  ·have h2':(lc:Int)≤20:=by omega
   have e3:decide ((zc:Int)≤40000)=decide (zc≤40000):=by rw[Bool.eq_iff_iff];simp;omega
   go_enter Tryz.func12,Tryz.ntmps12
   go_wp2_with fail
   refine (HC.out _ hb0).mono ?_
   rintro e w1 ⟨rfl,hb1⟩
   have hbw1:=hb0.trans (hb1.mono hb0.size)
   have hbox1:=HB0.out.step hb1
   obtain ⟨k0,k1,k2,k3,k4,k5,k6,k7,k8,k9,k10,k11⟩:=hbox1.all
   go_wp2_with fail
   refine (HLv.out _ hbw1).mono ?_
   rintro e w2 ⟨rfl,hb2⟩
   clear k0 k1 k2 k3 k4 k5 k6 k7 k8 k9 k10 k11
   have hbw2:=hbw1.trans (hb2.mono hbw1.size)
   have hbox2:=hbox1.step hb2
   obtain ⟨k0,k1,k2,k3,k4,k5,k6,k7,k8,k9,k10,k11⟩:=hbox2.all
   go_wp2_with fail
   refine (HS.out _ hbw2).mono ?_
   rintro e w3 ⟨rfl,hb3⟩
   clear k0 k1 k2 k3 k4 k5 k6 k7 k8 k9 k10 k11
   go_wp2
   go_ret
   exact ⟨ret_bool' (by rw[HD.out,decide_eq_true h1,decide_eq_true h2];rfl),hbw2.trans (hb3.mono hbw2.size)⟩
  ·have h2':(20:Int)<lc:=by omega
   go_enter Tryz.func12,Tryz.ntmps12
   go_wp2_with fail
   refine (HC.out _ hb0).mono ?_
   rintro e w1 ⟨rfl,hb1⟩
   have hbw1:=hb0.trans (hb1.mono hb0.size)
   have hbox1:=HB0.out.step hb1
   obtain ⟨k0,k1,k2,k3,k4,k5,k6,k7,k8,k9,k10,k11⟩:=hbox1.all
   go_wp2_with fail
   refine (HLv.out _ hbw1).mono ?_
   rintro e w2 ⟨rfl,hb2⟩
   go_wp2
   go_ret
   exact ⟨ret_bool' (by rw[HD.out,decide_eq_true h1,decide_eq_false h2];rfl),hbw1.trans (hb2.mono hbw1.size)⟩
 ·have h1':(40:Int)<cc:=by omega
  go_enter Tryz.func12,Tryz.ntmps12
  go_wp2_with fail
  refine (HC.out _ hb0).mono ?_
  rintro e w1 ⟨rfl,hb1⟩
  go_wp2
  go_ret
  exact ⟨ret_bool' (by rw[HD.out,decide_eq_false h1];rfl),hb0.trans (hb1.mono hb0.size)⟩
theorem r_few43(n:Nat)(t:NT n)(vs:List Value)(B:Nat)(w:World)(h:NodeV w (· < B) n t vs)(hB:B≤w.heap.size)(hc:ntCount n t≤1099511627776)(hz:ntBytes n t≤1099511627776)(hn:n≤1099511627776):
 Calls Tryz.prog 5 #[.agg vs.toArray, .slice none 0 0] w fun e w'=>e= .returned (.bool (smallB n t))∧Below w.heap.size w w':=by
 have HF:=hQ (fun (W:World) (hb:Below w.heap.size w W)=>r_few18 n t vs B W (h.below (hb.mono hB)) (Nat.le_trans hB hb.size) hc hz hn)
 obtain ⟨f,a,a2,l,c,l2,c2,rfl⟩:=h.cells
 clear h
 generalize smallB n t=sm at*
 have hb0:=below_alloc1 w (.cells (nfCells f (.slice a l c) (.slice a2 l2 c2)).toArray 25)
 unfold nfCells at HF hb0 ⊢
 cases sm
 all_goals
  go_enter Tryz.func5,Tryz.ntmps5
  go_wp2
  refine wp_loop_rounds 1 ?_
  rw[rounds_succ]
  go_wp2_with fail
  refine (HF.out _ hb0).mono ?_
  rintro e w1 ⟨rfl,hb1⟩
  go_wp2
  go_ret
  exact ⟨rfl,hb0.trans (hb1.mono hb0.size)⟩
end Go.Proofs.YtbeccmkegckjjaaGreatDoor
end
