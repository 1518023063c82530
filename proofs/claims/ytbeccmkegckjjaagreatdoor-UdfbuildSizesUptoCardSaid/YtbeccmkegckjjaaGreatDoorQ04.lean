/- Law 43, UdfbuildSizes: a part of the proof. -/
import Derived.Test.YtbeccmkegckjjaaGreatDoorQ03
set_option linter.unusedVariables false
set_option linter.ambiguousOpen false
set_option linter.unusedSimpArgs false
section
namespace Go.Proofs.YtbeccmkegckjjaaGreatDoor
open Go.RowKit
set_option maxRecDepth 1000000
def FirstCh(l:List UInt8):Prop:= ∃c r,l=enc c++r∧isChar c=true
theorem split_chars: ∀(n:Nat) (l:List UInt8),l.length≤n→ ∃cs b,l=encs cs++b∧(∀c∈cs,isChar c=true)∧(b=[]∨ ¬FirstCh b)
 |0,l,h=>⟨[],[],by simp[encs,List.length_eq_zero_iff.1 (Nat.le_zero.1 h)],fun _ h=>(by cases h), .inl rfl⟩
 |n+1,l,h=>by
  by_cases hf:FirstCh l
  ·obtain ⟨c,r,rfl,hc⟩:=hf
   have hp:=enc_pos c
   rw[List.length_append] at h
   obtain ⟨cs,b,rfl,h1,h2⟩:=split_chars n r (by omega)
   refine ⟨c::cs,b,by rw[encs_cons,List.append_assoc],fun x hx=>?_,h2⟩
   rcases List.mem_cons.1 hx with rfl|hx
   ·exact hc
   ·exact h1 x hx
  ·exact ⟨[],l,by simp[encs],fun _ h=>(by cases h), .inr hf⟩
theorem enc_inj{c c':Nat}{r r':List UInt8}(h:enc c++r=enc c'++r')(hc:isChar c=true)(hc':isChar c'=true):c=c'∧r=r':=by
 have e1:=decodeGo_enc ⟨(enc c++r).toArray⟩ c r rfl hc
 have e2:=decodeGo_enc ⟨(enc c++r).toArray⟩ c' r' h hc'
 have e3:=e1.symm.trans e2
 injection e3 with e3 e4
 subst e3
 exact ⟨rfl,List.append_cancel_left h⟩
theorem firstCh_encs{cs:List Nat}{b:List UInt8}(hc: ∀c∈cs,isChar c=true)(h0:cs≠[]):FirstCh (encs cs++b):=by
 cases cs with
 |nil=>exact absurd rfl h0
 |cons c cs=>exact ⟨c,encs cs++b,by rw[encs_cons,List.append_assoc],hc c (by simp)⟩
theorem encs_inj: ∀ {cs cs':List Nat} {b b':List UInt8},encs cs++b=encs cs'++b'→(∀c∈cs,isChar c=true)→(∀c∈cs',isChar c=true)→(b=[]∨ ¬FirstCh b)→(b'=[]∨ ¬FirstCh b')→cs=cs'∧b=b'
 |[],[],b,b',h,_,_,_,_=>⟨rfl,by simpa[encs] using h⟩
 |[],c::cs',b,b',h,_,h2,h3,_=>by
  exfalso
  have hb:b=encs (c::cs')++b':=by simpa[encs] using h
  rcases h3 with rfl|h3
  ·have:=enc_pos c
   have:=congrArg List.length hb
   rw[encs_cons,List.length_append,List.length_append,List.length_nil] at this
   omega
  ·exact h3 (by rw[hb];exact firstCh_encs h2 (by simp))
 |c::cs,[],b,b',h,h1,_,_,h4=>by
  exfalso
  have hb:encs (c::cs)++b=b':=by simpa[encs] using h
  rcases h4 with rfl|h4
  ·have:=enc_pos c
   have:=congrArg List.length hb
   rw[encs_cons,List.length_append,List.length_append,List.length_nil] at this
   omega
  ·exact h4 (by rw[←hb];exact firstCh_encs h1 (by simp))
 |c::cs,c'::cs',b,b',h,h1,h2,h3,h4=>by
  rw[encs_cons,encs_cons,List.append_assoc,List.append_assoc] at h
  obtain ⟨rfl,h5⟩:=enc_inj h (h1 c (by simp)) (h2 c' (by simp))
  obtain ⟨rfl,h6⟩:=encs_inj h5 (fun x hx=>h1 x (by simp[hx])) (fun x hx=>h2 x (by simp[hx])) h3 h4
  exact ⟨rfl,h6⟩
noncomputable def uc(l:List UInt8):List Nat:=(split_chars l.length l (Nat.le_refl _)).choose
noncomputable def ub(l:List UInt8):List UInt8:=(split_chars l.length l (Nat.le_refl _)).choose_spec.choose
theorem u_spec(l:List UInt8):l=encs (uc l)++ub l∧(∀c∈uc l,isChar c=true)∧(ub l=[]∨ ¬FirstCh (ub l)):=(split_chars l.length l (Nat.le_refl _)).choose_spec.choose_spec
noncomputable def isText(l:List UInt8):Bool:=(ub l).isEmpty
noncomputable def nameOK(l:List UInt8):Bool:=isText l&&goodCs (uc l)
theorem isText_encs{l:List UInt8}(h:isText l=true):l=encs (uc l):=by
 have:=(u_spec l).1
 have hb:ub l=[]:=by simpa[isText] using h
 rw[hb,List.append_nil] at this
 exact this
theorem decode_bad(s:ByteArray)(h0:0<s.size)(hb: ¬FirstCh s.data.toList):(Lib.decodeGo s).2≤4∧1≤(Lib.decodeGo s).2∧(Lib.decodeGo s).1≤1114111∧(isChar (Lib.decodeGo s).1=false∨((Lib.decodeGo s).1=65533∧(Lib.decodeGo s).2=1)):=by
 unfold Lib.decodeGo
 rw[if_neg (by omega),Lib.decode_at,get_bang,get_bang,get_bang,get_bang]
 have hl:s.data.toList.length=s.size:=len_data s
 generalize s.data.toList=l at*
 have g: ∀i,(l.getD i 0).toNat<256:=fun i=>UInt8.toNat_lt _
 have key: ∀c,isChar c=true→(∀i,i<(enc c).length→i<l.length∧((enc c).getD i 0).toNat=(l.getD i 0).toNat)→FirstCh l:=fun c hc h=>by
  refine ⟨c,l.drop (enc c).length,?_,hc⟩
  have ht:l.take (enc c).length=enc c:=by
   apply List.ext_getElem
   ·rw[List.length_take]
    have:=enc_pos c
    have:=(h ((enc c).length-1) (by omega)).1
    omega
   ·intro i h1 h2
    have:=(h i h2).2
    rw[List.getD_eq_getElem?_getD,List.getD_eq_getElem?_getD,List.getElem?_eq_getElem h2,List.getElem?_eq_getElem (h i h2).1] at this
    simp only[Option.getD_some] at this
    rw[List.getElem_take]
    exact (UInt8.toNat_inj.1 this).symm
  conv=>lhs;rw[←List.take_append_drop (enc c).length l,ht]
 have g0:=g 0
 have g1:=g 1
 have g2:=g 2
 have g3:=g 3
 generalize h0':(l.getD 0 0).toNat=b0 at*
 generalize h1':(l.getD 1 0).toNat=b1 at*
 generalize h2':(l.getD 2 0).toNat=b2 at*
 generalize h3':(l.getD 3 0).toNat=b3 at*
 unfold Lib.decodeN
 split
 ·refine ⟨by omega,by omega,by simp only;omega, .inl ?_⟩
  rw[←Bool.not_eq_true]
  intro hc
  refine hb (key b0 hc fun i hi=>?_)
  rw[enc1 (by assumption)] at hi ⊢
  have:i=0:=by simpa using hi
  subst this
  exact ⟨by omega,by rw[h0'];simp;omega⟩
 ·split
  ·split
   ·refine ⟨by omega,by omega,by simp only;omega, .inl ?_⟩
    rw[←Bool.not_eq_true]
    intro hc
    refine hb (key _ hc fun i hi=>?_)
    rw[enc2 (by omega) (by omega)] at hi ⊢
    have:i=0∨i=1:=by simp at hi;omega
    rcases this with rfl|rfl
    ·exact ⟨by omega,by rw[h0'];simp;omega⟩
    ·exact ⟨by omega,by rw[h1'];simp;omega⟩
   ·exact ⟨by simp,by simp,by simp, .inr ⟨rfl,rfl⟩⟩
  ·split
   ·split
    ·refine ⟨by omega,by omega,by simp only;omega, .inl ?_⟩
     rw[←Bool.not_eq_true]
     intro hc
     have hlt:=isChar_lt hc
     refine hb (key _ hc fun i hi=>?_)
     rw[enc3 (by omega)] at hi ⊢
     have:i=0∨i=1∨i=2:=by simp at hi;omega
     rcases this with rfl|rfl|rfl
     ·exact ⟨by omega,by rw[h0'];simp;omega⟩
     ·exact ⟨by omega,by rw[h1'];simp;omega⟩
     ·exact ⟨by omega,by rw[h2'];simp;omega⟩
    ·exact ⟨by simp,by simp,by simp, .inr ⟨rfl,rfl⟩⟩
   ·split
    ·split
     ·refine ⟨by omega,by omega,by simp only;omega, .inl ?_⟩
      rw[←Bool.not_eq_true]
      intro hc
      have hlt:=isChar_lt hc
      omega
     ·exact ⟨by simp,by simp,by simp, .inr ⟨rfl,rfl⟩⟩
    ·exact ⟨by simp,by simp,by simp, .inr ⟨rfl,rfl⟩⟩
end Go.Proofs.YtbeccmkegckjjaaGreatDoor
end
section
namespace Go.Proofs.YtbeccmkegckjjaaGreatDoor
open Go.RowKit
set_option maxRecDepth 1000000
set_option maxHeartbeats 3200000
noncomputable def fidLen(name:ByteArray):Nat:=rounded (38+sqz (uc name.data.toList))
theorem nameOK_parts{l:List UInt8}(h:nameOK l=true):l=encs (uc l)∧(∀c∈uc l,isChar c=true)∧sqz (uc l)≤255∧(uc l).isEmpty=false∧l.length≤65536:=by
 unfold nameOK at h
 rw[Bool.and_eq_true] at h
 obtain ⟨h1,h2⟩:=h
 unfold goodCs at h2
 simp only[Bool.and_eq_true,decide_eq_true_eq] at h2
 obtain ⟨-, -, -,h3,h4⟩:=h2
 have he:=isText_encs h1
 refine ⟨he,(u_spec l).2.1,?_,?_,?_⟩
 ·unfold sqz
  have hw:=(wide_le (uc l)).2
  split
  ·omega
  ·have:=Nat.mul_le_mul h4 hw
   omega
 ·cases hc:uc l with
  |nil=>rw[hc] at h3;simp at h3
  |cons a r=>rfl
 ·have:=(encs_len (uc l)).2
  rw[←he] at this
  omega
theorem ret_i0{a b c:Int}(h:a=b):Ending.returned (.tuple #[.int .i64 a, .int .i64 c])= .returned (.tuple #[.int .i64 b, .int .i64 c]):=by rw[h]
theorem r_fidsize(t:ByteArray)(w:World)(h:nameOK t.data.toList=true):
 Calls Tryz.prog 127 #[fidV t false false false false false 0 0 0] w fun e w'=>e= .returned (.tuple #[.int .i64 (fidLen t:Int), .int .i64 0])∧Below w.heap.size w w':=by
 obtain ⟨h1,h2,h3,h4,h5⟩:=nameOK_parts h
 rw[len_data] at h5
 have HE:=hQ (fun W:World=>r_entry t (uc t.data.toList) false false false false false 0 0 0 W h1 h2 h5 h3 (by omega) (by omega) (by omega))
 have HC:=hQ (fun W:World=>r_compress t (uc t.data.toList) W h1 h2 h5)
 have HR:=hQ (fun (n:Nat) (hn:n<4294967296) (W:World)=>r_round n W hn)
 have HF:=hQ (show fidLen t=rounded (38+sqz (uc t.data.toList)) from rfl)
 have hok:entryOK (uc t.data.toList) false false=true:=by unfold entryOK;rw[h4];rfl
 rw[hok] at HE
 generalize fidLen t=F at*
 generalize sqz (uc t.data.toList)=q at*
 have hcell: ∀k:Nat, ∀v,(#[Value.string t, .bool false, .bool false, .bool false, .bool false, .bool false, .int .i64 0, .int .i64 0, .int .i64 0]:Array Value)[k]? =some v→(w.alloc (.cells #[Value.string t, .bool false, .bool false, .bool false, .bool false, .bool false, .int .i64 0, .int .i64 0, .int .i64 0] 58)).cell? ⟨w.heap.size,k,none⟩=some v:=by
  intro k v hv
  rw[World.cell?_alloc_at _ _ _ _ rfl];exact hv
 have hbel:Below w.heap.size w (w.alloc (.cells #[Value.string t, .bool false, .bool false, .bool false, .bool false, .bool false, .int .i64 0, .int .i64 0, .int .i64 0] 58)):=(Below.refl _ _).alloc (Nat.le_refl _) _
 have hlt:w.heap.size<(w.alloc (.cells #[Value.string t, .bool false, .bool false, .bool false, .bool false, .bool false, .int .i64 0, .int .i64 0, .int .i64 0] 58)).heap.size:=by show w.heap.size<(w.heap.push _).size;simp
 have c0:=hcell 0 _ rfl
 have c1:=hcell 1 _ rfl
 have c2:=hcell 2 _ rfl
 have c3:=hcell 3 _ rfl
 have c4:=hcell 4 _ rfl
 have c5:=hcell 5 _ rfl
 have c6:=hcell 6 _ rfl
 have c7:=hcell 7 _ rfl
 have c8:=hcell 8 _ rfl
 clear hcell h1 h2 h h4 h5 hok
 unfold fidV at HE ⊢
 go_enter Tryz.func127,Tryz.ntmps127
 go_wp2_with fail
 refine (HE.out _).mono ?_
 rintro e w2 ⟨rfl,hb2⟩
 have k0:=(hb2.cell hlt).trans c0
 have hbw2:=hbel.trans (hb2.mono hbel.size)
 clear c0 c1 c2 c3 c4 c5 c6 c7 c8 hlt hbel hb2
 go_wp2_with fail
 refine (HC.out _).mono ?_
 rintro e w3 ⟨s,rfl,hs,hb3⟩
 have hss:(s.size:Int)≤255:=by omega
 have HS:=hQ hs
 have hbw3:=hbw2.trans (hb3.mono hbw2.size)
 clear hs k0
 go_wp2_with fail
 have HR2:=HR.out (38+s.size) (by omega) w3
 rw[show ((38+s.size:Nat):Int)=38+(s.size:Int) by omega] at HR2
 refine HR2.mono ?_
 rintro e w4 ⟨rfl,rfl⟩
 go_wp2
 go_ret2
 exact ⟨ret_i0 (by rw[HF.out,HS.out]),hbw3⟩
theorem p_fname(t:ByteArray)(cs:List Nat)(w:World)(hT:Tabs w)(ht:t.data.toList=encs cs)(hc: ∀c∈cs,isChar c=true)(hz:t.size≤65536)(hq:sqz cs≤255)(he:cs.isEmpty=false):
 Calls Tryz.prog 206 #[fidV t false false false false false 0 0 0] w fun e w'=>(∃s:ByteArray,e= .returned (.tuple #[.string s, .bool true])∧s.size=sqz cs)∧Below w.heap.size w w':=by
 have hE:=isEmpty_str ht
 have HW:=hQ (fun W:World=>p_word 0 W (by omega))
 have HC:=hQ (fun (W:World) (hW:Tabs W)=>p_compress t cs W hW ht hc hz)
 clear ht hc
 unfold fidV
 have hcell: ∀k:Nat, ∀v,(#[Value.string t, .bool false, .bool false, .bool false, .bool false, .bool false, .int .i64 0, .int .i64 0, .int .i64 0]:Array Value)[k]? =some v→(w.alloc (.cells #[Value.string t, .bool false, .bool false, .bool false, .bool false, .bool false, .int .i64 0, .int .i64 0, .int .i64 0] 58)).cell? ⟨w.heap.size,k,none⟩=some v:=by
  intro k v hv
  rw[World.cell?_alloc_at _ _ _ _ rfl];exact hv
 have c0:=hcell 0 _ rfl
 have c2:=hcell 2 _ rfl
 have c4:=hcell 4 _ rfl
 have c6:=hcell 6 _ rfl
 have c7:=hcell 7 _ rfl
 have c8:=hcell 8 _ rfl
 have hbel:Below w.heap.size w (w.alloc (.cells #[Value.string t, .bool false, .bool false, .bool false, .bool false, .bool false, .int .i64 0, .int .i64 0, .int .i64 0] 58)):=(Below.refl _ _).alloc (Nat.le_refl _) _
 have HT1:=hQ (hT.step hbel)
 clear hcell hT
 go_enter Tryz.func206,Tryz.ntmps206
 go_wp2_with fail
 refine (HW.out _).mono ?_
 rintro e w1 ⟨rfl,rfl⟩
 go_wp2_with fail
 refine (HW.out _).mono ?_
 rintro e w1 ⟨rfl,rfl⟩
 go_wp2_with fail
 refine (HC.out _ HT1.out).mono ?_
 rintro e w2 ⟨s,rfl,hs,hb2⟩
 have c0':=(hb2.cell (by show w.heap.size<(w.heap.push _).size;simp)).trans c0
 have h1:(s.size:Int)≤255:=by omega
 have HS:=hQ hs
 clear hs
 rw[he] at hE
 go_wp2
 go_ret2
 exact ⟨⟨_,rfl,HS.out⟩,hbel.trans (hb2.mono hbel.size)⟩
theorem p_fidsize(t:ByteArray)(w:World)(hT:Tabs w)(h:nameOK t.data.toList=true):
 Calls Tryz.prog 119 #[fidV t false false false false false 0 0 0] w fun e w'=>e= .returned (.tuple #[.int .i64 (fidLen t:Int), .int .i64 0])∧Below w.heap.size w w':=by
 obtain ⟨h1,h2,h3,h4,h5⟩:=nameOK_parts h
 rw[len_data] at h5
 have HE:=hQ (fun (W:World) (hW:Tabs W)=>p_fname t (uc t.data.toList) W hW h1 h2 h5 h3 h4)
 have HR:=hQ (fun (n:Nat) (hn:n<4294967296) (W:World)=>p_rounded n W hn)
 have HF:=hQ (show fidLen t=rounded (38+sqz (uc t.data.toList)) from rfl)
 generalize fidLen t=F at*
 generalize sqz (uc t.data.toList)=q at*
 have hcell: ∀k:Nat, ∀v,(#[Value.string t, .bool false, .bool false, .bool false, .bool false, .bool false, .int .i64 0, .int .i64 0, .int .i64 0]:Array Value)[k]? =some v→(w.alloc (.cells #[Value.string t, .bool false, .bool false, .bool false, .bool false, .bool false, .int .i64 0, .int .i64 0, .int .i64 0] 58)).cell? ⟨w.heap.size,k,none⟩=some v:=by
  intro k v hv
  rw[World.cell?_alloc_at _ _ _ _ rfl];exact hv
 have hbel:Below w.heap.size w (w.alloc (.cells #[Value.string t, .bool false, .bool false, .bool false, .bool false, .bool false, .int .i64 0, .int .i64 0, .int .i64 0] 58)):=(Below.refl _ _).alloc (Nat.le_refl _) _
 have HT1:=hQ (hT.step hbel)
 have c0:=hcell 0 _ rfl
 have c1:=hcell 1 _ rfl
 have c2:=hcell 2 _ rfl
 have c3:=hcell 3 _ rfl
 have c4:=hcell 4 _ rfl
 have c5:=hcell 5 _ rfl
 have c6:=hcell 6 _ rfl
 have c7:=hcell 7 _ rfl
 have c8:=hcell 8 _ rfl
 clear hcell h1 h2 h h4 h5 hT
 unfold fidV at HE ⊢
 go_enter Tryz.func119,Tryz.ntmps119
 go_wp2_with fail
 refine (HE.out _ HT1.out).mono ?_
 rintro e w3 ⟨⟨s,rfl,hs⟩,hb3⟩
 have hss:(s.size:Int)≤255:=by omega
 have HS:=hQ hs
 have hbw3:=hbel.trans (hb3.mono hbel.size)
 clear hs c0 c1 c2 c3 c4 c5 c6 c7 c8
 go_wp2_with fail
 have HR2:=HR.out (38+s.size) (by omega) w3
 rw[show ((38+s.size:Nat):Int)=38+(s.size:Int) by omega] at HR2
 refine HR2.mono ?_
 rintro e w4 ⟨rfl,rfl⟩
 go_wp2
 go_ret2
 exact ⟨ret_i0 (by rw[HF.out,HS.out]),hbw3⟩
theorem p_fidsize0(w:World):
 Calls Tryz.prog 119 #[fidV ⟨#[]⟩ false true false true false 0 0 0] w fun e w'=>e= .returned (.tuple #[.int .i64 40, .int .i64 0])∧Below w.heap.size w w':=by
 have HW:=hQ (fun W:World=>p_word 0 W (by omega))
 have HR:=hQ (fun (n:Nat) (hn:n<4294967296) (W:World)=>p_rounded n W hn)
 have hcell: ∀(W:World) (k:Nat), ∀v,(#[Value.string ⟨#[]⟩, .bool false, .bool true, .bool false, .bool true, .bool false, .int .i64 0, .int .i64 0, .int .i64 0]:Array Value)[k]? =some v→(W.alloc (.cells #[Value.string ⟨#[]⟩, .bool false, .bool true, .bool false, .bool true, .bool false, .int .i64 0, .int .i64 0, .int .i64 0] 58)).cell? ⟨W.heap.size,k,none⟩=some v:=by
  intro W k v hv
  rw[World.cell?_alloc_at _ _ _ _ rfl];exact hv
 have hbel: ∀W:World,Below W.heap.size W (W.alloc (.cells #[Value.string ⟨#[]⟩, .bool false, .bool true, .bool false, .bool true, .bool false, .int .i64 0, .int .i64 0, .int .i64 0] 58)):=fun W=>(Below.refl _ _).alloc (Nat.le_refl _) _
 have HN:=hQ (show ∀W:World,Calls Tryz.prog 206 #[.agg #[Value.string ⟨#[]⟩, .bool false, .bool true, .bool false, .bool true, .bool false, .int .i64 0, .int .i64 0, .int .i64 0]] W fun e w'=>e= .returned (.tuple #[.string ⟨#[]⟩, .bool true])∧Below W.heap.size W w' from fun W=>by
  have c0:=hcell W 0 _ rfl
  have c2:=hcell W 2 _ rfl
  have c4:=hcell W 4 _ rfl
  have c6:=hcell W 6 _ rfl
  have c7:=hcell W 7 _ rfl
  have c8:=hcell W 8 _ rfl
  have hb:=hbel W
  go_enter Tryz.func206,Tryz.ntmps206
  go_wp2_with fail
  refine (HW.out _).mono ?_
  rintro e w1 ⟨rfl,rfl⟩
  go_wp2_with fail
  refine (HW.out _).mono ?_
  rintro e w1 ⟨rfl,rfl⟩
  go_wp2_with fail
  go_quiet (fail)
  go_wp2
  go_ret2
  exact ⟨rfl,below_drewN hb _⟩)
 have c0:=hcell w 0 _ rfl
 have c1:=hcell w 1 _ rfl
 have c2:=hcell w 2 _ rfl
 have c3:=hcell w 3 _ rfl
 have c4:=hcell w 4 _ rfl
 have c5:=hcell w 5 _ rfl
 have c6:=hcell w 6 _ rfl
 have c7:=hcell w 7 _ rfl
 have c8:=hcell w 8 _ rfl
 have hb:=hbel w
 clear hcell hbel
 unfold fidV
 go_enter Tryz.func119,Tryz.ntmps119
 go_wp2_with fail
 refine (HN.out _).mono ?_
 rintro e w3 ⟨rfl,hb3⟩
 have hbw3:=hb.trans (hb3.mono hb.size)
 clear c0 c1 c2 c3 c4 c5 c6 c7 c8
 go_wp2_with fail
 refine (HR.out 38 (by omega) w3).mono ?_
 rintro e w4 ⟨rfl,rfl⟩
 go_wp2
 go_ret2
 exact ⟨rfl,hbw3⟩
end Go.Proofs.YtbeccmkegckjjaaGreatDoor
end
