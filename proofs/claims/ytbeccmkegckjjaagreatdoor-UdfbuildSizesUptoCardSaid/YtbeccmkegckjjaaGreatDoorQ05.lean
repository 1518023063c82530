/- Law 43, UdfbuildSizes: a part of the proof. -/
import Derived.Test.YtbeccmkegckjjaaGreatDoorQ04
set_option linter.unusedVariables false
set_option linter.ambiguousOpen false
set_option linter.unusedSimpArgs false
section
namespace Go.Proofs.YtbeccmkegckjjaaGreatDoor
open Go.RowKit
set_option maxRecDepth 1000000
set_option maxHeartbeats 1600000
def isCharI(n:Int):Bool:=decide (0≤n)&&isChar n.toNat
theorem isCharI_nat(n:Nat):isCharI (n:Int)=isChar n:=by simp[isCharI]
theorem isCharI_cases(n:Int):(n<32∧isCharI n=false)∨(65533<n∧isCharI n=false)∨(32≤n∧n<55296∧isCharI n=true)∨(55296≤n∧n≤57343∧isCharI n=false)∨(57343<n∧n≤65533∧isCharI n=true):=by
 unfold isCharI
 by_cases h:0≤n
 ·obtain ⟨m,rfl⟩:=Int.eq_ofNat_of_zero_le h
  rw[decide_eq_true h,Bool.true_and,Int.toNat_natCast]
  rcases isChar_cases m with h|h|h|h|h
  ·left;exact ⟨by omega,h.2⟩
  ·right;left;exact ⟨by omega,h.2⟩
  ·right;right;left;exact ⟨by omega,by omega,h.2.2⟩
  ·right;right;right;left;exact ⟨by omega,by omega,h.2.2⟩
  ·right;right;right;right;exact ⟨by omega,by omega,h.2.2⟩
 ·left;rw[decide_eq_false h];exact ⟨by omega,rfl⟩
theorem r_charI(n:Int)(w:World):Calls Tryz.prog 399 #[.int .i64 n] w fun e w'=>e= .returned (.bool (isCharI n))∧w'=w:=by
 rcases isCharI_cases n with ⟨h1,h⟩|⟨h1,h⟩|⟨h1,h2,h⟩|⟨h1,h2,h⟩|⟨h1,h2,h⟩ <;> rw[h] <;> clear h
 case inr.inr.inr.inl=>
  have d1:decide (n<55296)=false:=by simp;omega
  have d2:decide ((57343:Int)<n)=false:=by simp;omega
  go_enter Tryz.func399,Tryz.ntmps399
  go_wp2
  go_ret
  exact ⟨rfl,rfl⟩
 case inr.inr.inr.inr=>
  have d1:decide (n<55296)=false:=by simp;omega
  have d2:decide ((57343:Int)<n)=true:=by simp;omega
  go_enter Tryz.func399,Tryz.ntmps399
  go_wp2
  go_ret
  exact ⟨rfl,rfl⟩
 all_goals
  go_enter Tryz.func399,Tryz.ntmps399
  go_wp2
  go_ret
  exact ⟨rfl,rfl⟩
theorem bad_cut(s:ByteArray)(hb: ¬FirstCh s.data.toList)(c k:Nat)(hc:isChar c=true)(hk:k≤s.size):((⟨(enc c).toArray⟩:ByteArray).toList==(s.extract 0 k).toList)=false:=by
 rw[beq_eq_false_iff_ne,ByteArray.toList_eq,ByteArray.toList_eq,cut_data]
 intro h
 refine hb ⟨c,s.data.toList.drop k,?_,hc⟩
 simp only[List.drop_zero,Nat.sub_zero] at h
 rw[h,List.take_append_drop]
theorem charI_or(n:Int):(∃c:Nat,n=c∧isChar c=true∧c<65536)∨isCharI n=false:=by
 cases h:isCharI n with
 |false=>exact .inr rfl
 |true=>
  left
  unfold isCharI at h
  rw[Bool.and_eq_true,decide_eq_true_iff] at h
  exact ⟨n.toNat,by omega,h.2,isChar_lt h.2⟩
set_option maxHeartbeats 12800000 in
theorem r_first_bad(s:ByteArray)(w:World)(h0:0<s.size)(hb: ¬FirstCh s.data.toList)(hz:s.size≤65536):
 Calls Tryz.prog 362 #[.string s] w fun e w'=>e= .returned (.tuple #[.int .i64 0, .int .i64 0])∧Below w.heap.size w w':=by
 have HX:=hQ (bad_cut s hb)
 have HC:=hQ (fun (n:Int) (W:World)=>r_charI n W)
 have HE:=hQ (fun (c:Nat) (W:World) (h:c<65536)=>r_enc c W h)
 have hi0:(0:Int)<s.size:=by omega
 have hz':(s.size:Int)≤65536:=by omega
 have b0:s[0].toNat<256:=UInt8.toNat_lt _
 clear hb
 go_enter Tryz.func362,Tryz.ntmps362
 go_wp2
 go_loopw [4] (fun i wr=>(i= .int .i64 1∨i= .int .i64 2∨i= .int .i64 3∨i= .int .i64 4)∧Below w.heap.size w wr) (fun i _=>5-(intOf i).toNat)
 case atStart=>exact ⟨.inl rfl,Below.refl _ _⟩
 case round=>
  obtain ⟨rfl|rfl|rfl|rfl,hbw⟩:=hrel
  ·have hs1:(1:Int)≤s.size:=by omega
   generalize hn:((s[0].toNat:Nat):Int)=n at*
   rcases charI_or n with ⟨c,rfl,hc,hcl⟩|hc
   ·have hx:=HX.out c 1 hc (by omega)
    have HC1:=hQ (fun W:World=>HC.out (c:Int) W)
    rw[isCharI_nat,hc] at HC1
    have HE1:=hQ (fun W:World=>HE.out c W hcl)
    generalize (⟨(enc c).toArray⟩:ByteArray)=t1 at*
    go_wp2
    go_region_with (first
     |(go_at_call 399;refine (HC1.out _).mono ?_;rintro e w5 ⟨rfl,rfl⟩)
     |(go_at_call 400;refine (HE1.out _).mono ?_;rintro e w5 ⟨rfl,hb5⟩))
    all_goals
     go_wp2
     go_roundw
     ·exact ⟨.inr (.inl rfl),below_next hbw hb5⟩
     ·simp[intOf]
   ·have HC1:=hQ (fun W:World=>HC.out n W)
    rw[hc] at HC1
    go_wp2
    go_quiet (first|(go_at_call 399;exact Calls.quiet_of_same (HC1.out _)))
    go_wp2
    go_roundw
    ·exact ⟨.inr (.inl rfl),below_drewN hbw _⟩
    ·simp[intOf]
  ·by_cases hk:2≤s.size
   ·have hs1:(2:Int)≤s.size:=by omega
    have hi1:(1:Int)<s.size:=by omega
    have b1:s[1].toNat<256:=UInt8.toNat_lt _
    go_wp2
    go_quiet (fail)
    go_wp2
    generalize hn:(((s[0].toNat:Nat):Int)-192)*64+((s[1].toNat:Nat):Int)-128=n
    rcases charI_or n with ⟨c,rfl,hc,hcl⟩|hc
    ·have hx:=HX.out c 2 hc (by omega)
     have HC1:=hQ (fun W:World=>HC.out (c:Int) W)
     rw[isCharI_nat,hc] at HC1
     have HE1:=hQ (fun W:World=>HE.out c W hcl)
     generalize (⟨(enc c).toArray⟩:ByteArray)=t1 at*
     clear hn hc hcl
     go_region_with (first
      |(go_at_call 399;refine (HC1.out _).mono ?_;rintro e w5 ⟨rfl,rfl⟩)
      |(go_at_call 400;refine (HE1.out _).mono ?_;rintro e w5 ⟨rfl,hb5⟩))
     all_goals
      go_wp2
      go_roundw
      ·exact ⟨.inr (.inr (.inl rfl)),below_next (below_drewN hbw _) hb5⟩
      ·simp[intOf]
    ·have HC1:=hQ (fun W:World=>HC.out n W)
     rw[hc] at HC1
     clear hn hc
     have hbw2:=below_drewN hbw nq
     generalize wr.drewN nq=w2 at*
     go_quiet (first|(go_at_call 399;exact Calls.quiet_of_same (HC1.out _)))
     go_wp2
     go_roundw
     ·exact ⟨.inr (.inr (.inl rfl)),below_drewN hbw2 _⟩
     ·simp[intOf]
   ·have hs1:(s.size:Int)<2:=by omega
    go_wp2
    go_ret2
    exact ⟨rfl,hbw⟩
  ·by_cases hk:3≤s.size
   ·have hs1:(3:Int)≤s.size:=by omega
    have hi1:(1:Int)<s.size:=by omega
    have b1:s[1].toNat<256:=UInt8.toNat_lt _
    have hi2:(2:Int)<s.size:=by omega
    have b2:s[2].toNat<256:=UInt8.toNat_lt _
    go_wp2
    go_quiet (fail)
    go_wp2
    generalize hn:(((s[0].toNat:Nat):Int)-224)*4096+(((s[1].toNat:Nat):Int)-128)*64+((s[2].toNat:Nat):Int)-128=n
    rcases charI_or n with ⟨c,rfl,hc,hcl⟩|hc
    ·have hx:=HX.out c 3 hc (by omega)
     have HC1:=hQ (fun W:World=>HC.out (c:Int) W)
     rw[isCharI_nat,hc] at HC1
     have HE1:=hQ (fun W:World=>HE.out c W hcl)
     generalize (⟨(enc c).toArray⟩:ByteArray)=t1 at*
     clear hn hc hcl
     go_region_with (first
      |(go_at_call 399;refine (HC1.out _).mono ?_;rintro e w5 ⟨rfl,rfl⟩)
      |(go_at_call 400;refine (HE1.out _).mono ?_;rintro e w5 ⟨rfl,hb5⟩))
     all_goals
      go_wp2
      go_roundw
      ·exact ⟨.inr (.inr (.inr rfl)),below_next (below_drewN hbw _) hb5⟩
      ·simp[intOf]
    ·have HC1:=hQ (fun W:World=>HC.out n W)
     rw[hc] at HC1
     clear hn hc
     have hbw2:=below_drewN hbw nq
     generalize wr.drewN nq=w2 at*
     go_quiet (first|(go_at_call 399;exact Calls.quiet_of_same (HC1.out _)))
     go_wp2
     go_roundw
     ·exact ⟨.inr (.inr (.inr rfl)),below_drewN hbw2 _⟩
     ·simp[intOf]
   ·have hs1:(s.size:Int)<3:=by omega
    go_wp2
    go_ret2
    exact ⟨rfl,hbw⟩
  ·go_wp2
   go_ret2
   exact ⟨rfl,hbw⟩
def CRelB(cs:List Nat)(bd:List UInt8)(w:World)(t out:Value)(wr:World):Prop:= ∃(s:ByteArray) (a b:List Nat),t= .string s∧cs=a++b∧s.data.toList=encs b++bd∧wr.ownsRow w.heap.size 3 1 out a.length (intsV a)∧Below w.heap.size w wr
theorem r_chars_bad(s:ByteArray)(cs:List Nat)(w:World)(bd:List UInt8)(hs:s.data.toList=encs cs++bd)(hne:bd≠[])(hbad: ¬FirstCh bd)(hc: ∀c∈cs,isChar c=true)(hz:s.size≤65536):
 Calls Tryz.prog 305 #[.string s] w fun e w'=> ∃er:Int,e= .returned (.tuple #[.slice none 0 0, .int .i64 er])∧er≠0∧Below w.heap.size w w':=by
 obtain ⟨i0,hi,hz0,hz1,hz2⟩:=info_parts info_int
 have hcl:cs.length≤65536:=by have h1:=(encs_len cs).1;have h2:=congrArg List.length hs;rw[len_data,List.length_append] at h2;omega
 have hs0:(s.size:Int)≤65536:=by omega
 have HS:=hQ hs
 clear hs
 go_enter Tryz.func305,Tryz.ntmps305
 go_wp2
 go_loopw [0,4] (fun t out wr=>CRelB cs bd w t out wr) (fun t _ _=>strSize t)
 case atStart=>exact ⟨s,[],cs,rfl,rfl,HS.out,World.ownsRow_nil _ _ _ _,Below.refl _ _⟩
 case round=>
  obtain ⟨t,a,b,rfl,hab,ht,hown,hbw⟩:=hrel
  cases b with
  |nil=>
   have htd:t.data.toList=bd:=by rw[ht];simp[encs]
   have ht1:0<t.size:=by rw[←len_data,htd];exact List.length_pos_iff.2 hne
   have htz:t.size≤65536:=by
    have e:=congrArg List.length HS.out
    rw[List.length_append,len_data, ←htd,len_data] at e
    omega
   have HF:=hQ (fun W:World=>r_first_bad t W ht1 (by rw[htd];exact hbad) htz)
   clear ht htd
   go_wp2_with fail
   refine (HF.out _).mono ?_
   rintro e w1 ⟨rfl,hb1⟩
   go_wp2
   go_ret2
   exact ⟨_,rfl,by decide,hbw.trans (hb1.mono hbw.size)⟩
  |cons c b=>
   have hcc:isChar c=true:=hc c (by rw[hab];simp)
   have htl:t.size=(enc c).length+((encs b).length+bd.length):=by rw[←len_data,ht,encs_cons,List.append_assoc,List.length_append,List.length_append]
   have hp:=enc_pos c
   have hp3:=enc_le c
   have htz:t.size≤65536:=by
    have e:=congrArg List.length HS.out
    rw[hab,encs_append,List.append_assoc, ←ht,List.length_append,len_data,len_data] at e
    omega
   have HF:=hQ (fun W:World=>r_first t c (encs b++bd) W (by rw[ht,encs_cons,List.append_assoc]) hcc htz)
   have hal:a.length+1≤cs.length:=by rw[hab];simp
   have hd:(t.extract (enc c).length t.size).data.toList=encs b++bd:=by rw[cut_data,ht,encs_cons,List.append_assoc,List.drop_left,List.take_of_length_le (by rw[List.length_append];omega)]
   have hL:((enc c).length:Int)≤t.size:=by omega
   have hL0:(enc c).length≠0:=by omega
   have hm:(t.extract (enc c).length t.size).size<t.size:=by rw[←len_data,hd,List.length_append];omega
   have ht1:0<t.size:=by omega
   have HTL:=hQ htl
   clear htl ht
   generalize (enc c).length=L at*
   go_wp2_with fail
   refine (HF.out _).mono ?_
   rintro e w1 ⟨rfl,hb1⟩
   have hb1':=hbw.trans (hb1.mono hbw.size)
   have hown1:=own_below' hown hb1
   clear HF
   go_wp2_with (first
    |(at_builtin;refine wpList_append_own _ rfl _ _ 34 rfl w.heap.size 3 i0 (.int .i64 0) 1 8 Tryz.underlying34 hi hz0 hz1 hz2 rfl (by decide) _ _ _ rfl (hown1.alloc _) ⟨w1.heap.size,0,none⟩ 1 1 [.int .i64 c] rfl rfl ?_ ?_ ?_ ?_ ?_ ?_)
    |go_in)
   ·intro j u hj
    match j,hj with
    |0,hj=>simp at hj;subst hj;exact new_one _ _ _ _ rfl
   ·intro u hu;simp at hu;subst hu;rfl
   ·unfold maxLen;omega
   ·omega
   ·exact (hb1'.alloc hb1'.size _).size
   ·intro v' w2 hown' hgrow _
    have hb2:=(hb1'.alloc hb1'.size _).grown hgrow (hb1'.alloc hb1'.size _).size (fun j hj=>(hown1.lt j hj).1)
    go_wp2
    go_roundw
    case rel=>exact ⟨_,a++[c],b,rfl,by rw[hab];simp,hd,by rw[intsV_snoc,List.length_append];exact hown',hb2⟩
    case measure=>exact hm
theorem p_chars_bad(s:ByteArray)(cs:List Nat)(w:World)(hT:Tabs w)(bd:List UInt8)(hs:s.data.toList=encs cs++bd)(hne:bd≠[])(hbad: ¬FirstCh bd)(hc: ∀c∈cs,isChar c=true)(hz:s.size≤65536):
 Calls Tryz.prog 287 #[.string s] w fun e w'=> ∃er:Int,e= .returned (.tuple #[.slice none 0 0, .int .i64 er])∧er≠0∧Below w.heap.size w w':=by
 obtain ⟨i0,hi,hz0,hz1,hz2⟩:=info_parts info_int
 have hcl:cs.length≤65536:=by have h1:=(encs_len cs).1;have h2:=congrArg List.length hs;rw[len_data,List.length_append] at h2;omega
 have hs0:(s.size:Int)≤65536:=by omega
 have HS:=hQ hs
 have HT:=hQ hT
 clear hs hT
 go_enter Tryz.func287,Tryz.ntmps287
 go_wp2_with (first
  |(at_make;refine wpList_make_own _ rfl _ _ 34 rfl w.heap.size 3 i0 (.int .i64 0) 1 Tryz.underlying34 hi hz0 hz1 .i64 .i64 _ s.size rfl rfl rfl (by rw[hz2];omega) (by unfold maxLen;omega) (Nat.le_refl _) ?_;intro w0 hown0 hgrow0)
  |go_in)
 have H0:Hid (CRelB cs bd w (.string s) (.slice (some ⟨w.heap.size,0,none⟩) 0 s.size) w0):=⟨s,[],cs,rfl,rfl,HS.out,hown0,(Below.refl _ _).grown hgrow0 (Nat.le_refl _) (fun j hj=>by cases hj)⟩
 clear hown0 hgrow0
 go_loopw [0,4] (fun t out wr=>CRelB cs bd w t out wr) (fun t _ _=>strSize t)
 case atStart=>exact H0.out
 case round=>
  obtain ⟨t,a,b,rfl,hab,ht,hown,hbw⟩:=hrel
  clear H0
  cases b with
  |nil=>
   have htd:t.data.toList=bd:=by rw[ht];simp[encs]
   have ht1:0<t.size:=by rw[←len_data,htd];exact List.length_pos_iff.2 hne
   have hB:=decode_bad t ht1 (by rw[htd];exact hbad)
   have hT1:Tabs wr:=HT.out.step hbw
   have HD:=hQ (Tryz.utf8_DecodeRuneInString t wr hT1.1)
   clear ht htd hT1
   generalize Lib.decodeGo t=dg at*
   obtain ⟨c,n⟩:=dg
   obtain ⟨hn4,hn1,hc4,hor⟩:=hB
   dsimp only at hn4 hn1 hc4 hor HD
   have HC:=hQ (fun W:World=>p_char c W)
   have hc5:(c:Int)≤1114111:=by omega
   rcases hor with hcf|⟨rfl,rfl⟩
   ·rw[hcf] at HC
    go_wp2_with fail
    refine HD.out.mono ?_
    rintro e w1 ⟨rfl,hb1⟩
    go_wp2_with fail
    refine (HC.out _).mono ?_
    rintro e w2 ⟨rfl,rfl⟩
    go_wp2
    go_ret2
    exact ⟨_,rfl,by decide,hbw.trans (hb1.mono hbw.size)⟩
   ·rw[show isChar 65533=true from rfl] at HC
    go_wp2_with fail
    refine HD.out.mono ?_
    rintro e w1 ⟨rfl,hb1⟩
    go_wp2_with fail
    refine (HC.out _).mono ?_
    rintro e w2 ⟨rfl,rfl⟩
    go_wp2
    go_ret2
    exact ⟨_,rfl,by decide,hbw.trans (hb1.mono hbw.size)⟩
  |cons c b=>
   have hcc:isChar c=true:=hc c (by rw[hab];simp)
   have htl:t.size=(enc c).length+((encs b).length+bd.length):=by rw[←len_data,ht,encs_cons,List.append_assoc,List.length_append,List.length_append]
   have hp:=enc_pos c
   have hp3:=enc_le c
   have hclt:=isChar_lt hcc
   have htz:t.size≤65536:=by
    have e:=congrArg List.length HS.out
    rw[hab,encs_append,List.append_assoc, ←ht,List.length_append,len_data,len_data] at e
    omega
   have HF:=hQ (fun (W:World) (hW:Tabs W)=>p_decode t c (encs b++bd) W hW (by rw[ht,encs_cons,List.append_assoc]) hcc)
   have HC:=hQ (fun W:World=>p_char c W)
   rw[hcc] at HC
   have hal:a.length+1≤cs.length:=by rw[hab];simp
   have hd:(t.extract (enc c).length t.size).data.toList=encs b++bd:=by rw[cut_data,ht,encs_cons,List.append_assoc,List.drop_left,List.take_of_length_le (by rw[List.length_append];omega)]
   have hL:((enc c).length:Int)≤t.size:=by omega
   have hL0:(enc c).length≠0:=by omega
   have hm:(t.extract (enc c).length t.size).size<t.size:=by rw[←len_data,hd,List.length_append];omega
   have ht1:0<t.size:=by omega
   have hr:((c:Int)==65533)=false∨(((c:Int)==65533)=true∧(((enc c).length:Int)==1)=false):=by
    by_cases h:c=65533
    ·right
     subst h
     exact ⟨rfl,by rw[beq_eq_false_iff_ne,enc_length];decide⟩
    ·left;rw[beq_eq_false_iff_ne];omega
   have hT1:Tabs wr:=HT.out.step hbw
   clear htl ht
   generalize (enc c).length=L at*
   go_wp2_with fail
   refine (HF.out _ hT1).mono ?_
   rintro e w1 ⟨rfl,hb1⟩
   have hb1':=hbw.trans (hb1.mono hbw.size)
   have hown1:=own_below' hown hb1
   clear HF
   go_wp2_with fail
   refine (HC.out _).mono ?_
   rintro e w1' ⟨rfl,rfl⟩
   have hcap: ∀(x:Int),0≤x→x<65536→IntKind.i64.wrap x=x:=fun x h0 h1=>by rw[IntKind.wrap_i64];omega
   rcases hr with hr|⟨hr,hr2⟩
   ·go_wp2_with (first
     |(at_builtin;refine wpList_append_own _ rfl _ _ 34 rfl w.heap.size 3 i0 (.int .i64 0) 1 8 Tryz.underlying34 hi hz0 hz1 hz2 rfl (by decide) _ _ _ rfl (hown1.alloc _) ⟨w1'.heap.size,0,none⟩ 1 1 [.int .i64 c] rfl rfl ?_ ?_ ?_ ?_ ?_ ?_)
     |go_in)
    ·intro j u hj
     match j,hj with
     |0,hj=>simp at hj;subst hj;exact new_one _ _ _ _ rfl
    ·intro u hu;simp at hu;subst hu;rfl
    ·unfold maxLen;omega
    ·omega
    ·exact (hb1'.alloc hb1'.size _).size
    ·intro v' w2 hown' hgrow _
     have hb2:=(hb1'.alloc hb1'.size _).grown hgrow (hb1'.alloc hb1'.size _).size (fun j hj=>(hown1.lt j hj).1)
     go_wp2
     go_roundw
     case rel=>exact ⟨_,a++[c],b,rfl,by rw[hab];simp,hd,by rw[intsV_snoc,List.length_append];exact hown',hb2⟩
     case measure=>exact hm
   ·go_wp2_with (first
     |(at_builtin;refine wpList_append_own _ rfl _ _ 34 rfl w.heap.size 3 i0 (.int .i64 0) 1 8 Tryz.underlying34 hi hz0 hz1 hz2 rfl (by decide) _ _ _ rfl (hown1.alloc _) ⟨w1'.heap.size,0,none⟩ 1 1 [.int .i64 c] rfl rfl ?_ ?_ ?_ ?_ ?_ ?_)
     |go_in)
    ·intro j u hj
     match j,hj with
     |0,hj=>simp at hj;subst hj;exact new_one _ _ _ _ rfl
    ·intro u hu;simp at hu;subst hu;rfl
    ·unfold maxLen;omega
    ·omega
    ·exact (hb1'.alloc hb1'.size _).size
    ·intro v' w2 hown' hgrow _
     have hb2:=(hb1'.alloc hb1'.size _).grown hgrow (hb1'.alloc hb1'.size _).size (fun j hj=>(hown1.lt j hj).1)
     go_wp2
     go_roundw
     case rel=>exact ⟨_,a++[c],b,rfl,by rw[hab];simp,hd,by rw[intsV_snoc,List.length_append];exact hown',hb2⟩
     case measure=>exact hm
end Go.Proofs.YtbeccmkegckjjaaGreatDoor
end
section
namespace Go.Proofs.YtbeccmkegckjjaaGreatDoor
open Go.RowKit
set_option maxRecDepth 1000000
set_option maxHeartbeats 1600000
theorem uc_eq{l:List UInt8}{cs:List Nat}{b:List UInt8}(h:l=encs cs++b)(hc: ∀c∈cs,isChar c=true)(hb:b=[]∨ ¬FirstCh b):uc l=cs∧ub l=b:=by
 obtain ⟨h1,h2,h3⟩:=u_spec l
 exact encs_inj (h1.symm.trans h) h2 hc h3 hb
theorem isText_of{l:List UInt8}{cs:List Nat}(h:l=encs cs)(hc: ∀c∈cs,isChar c=true):isText l=true∧uc l=cs:=by
 obtain ⟨h1,h2⟩:=uc_eq (l:=l) (b:=[]) (by rw[h,List.append_nil]) hc (.inl rfl)
 exact ⟨by unfold isText;rw[h2];rfl,h1⟩
theorem text_dot:isText [46]=true:=(isText_of (cs:=[46]) (by decide) (by decide)).1
theorem text_dots:isText [46,46]=true:=(isText_of (cs:=[46,46]) (by decide) (by decide)).1
theorem bad_of{l:List UInt8}(h:isText l=false):ub l≠[]∧ ¬FirstCh (ub l):=by
 have h1:ub l≠[]:=fun e=>by unfold isText at h;rw[e] at h;cases h
 exact ⟨h1,(u_spec l).2.2.resolve_left h1⟩
theorem r_name(s:ByteArray)(w:World)(hz:s.size≤65536):
 Calls Tryz.prog 301 #[.string s] w fun e w'=>e= .returned (.bool (nameOK s.data.toList))∧Below w.heap.size w w':=by
 cases ht:isText s.data.toList
 ·obtain ⟨b1,b2⟩:=bad_of ht
  have hn:nameOK s.data.toList=false:=by unfold nameOK;rw[ht];rfl
  rw[hn]
  have hb1:(s.toList==[46])=false:=by rw[ByteArray.toList_eq,beq_eq_false_iff_ne];intro e;rw[e,text_dot] at ht;cases ht
  have hb2:(s.toList==[46,46])=false:=by rw[ByteArray.toList_eq,beq_eq_false_iff_ne];intro e;rw[e,text_dots] at ht;cases ht
  have HC:=hQ (fun W:World=>r_chars_bad s (uc s.data.toList) W (ub s.data.toList) (u_spec _).1 b1 b2 (u_spec _).2.1 hz)
  clear ht b1 b2 hn
  by_cases hlen:300<s.size
  ·have hlen':(300:Int)<s.size:=by omega
   clear hlen
   go_enter Tryz.func301,Tryz.ntmps301
   go_wp2
   go_ret
   exact ⟨rfl,Below.refl _ _⟩
  ·have hlen':decide ((300:Int)<s.size)=false:=by simp;omega
   go_enter Tryz.func301,Tryz.ntmps301
   go_wp2
   go_loop [3] (fun i=> ∃k:Nat,k≤s.size∧i= .int .i64 k) (fun i=>s.size-(intOf i).toNat)
   case atStart=>exact ⟨0,Nat.zero_le _,rfl⟩
   case round=>
    obtain ⟨k,hk,rfl⟩:=hrel
    by_cases hlt:k<s.size
    ·have hb:s[k].toNat<256:=UInt8.toNat_lt _
     have hi:(k:Int)<s.size:=by omega
     by_cases h47:s[k].toNat=47
     ·go_wp2
      go_ret
      exact ⟨rfl,Below.refl _ _⟩
     ·have h47':((s[k].toNat:Int)==47)=false:=by rw[beq_eq_false_iff_ne];omega
      clear h47
      go_wp2
      go_round
      case rel=>exact ⟨k+1,by omega,by go_num⟩
      case measure=>simp[intOf];omega
    ·have hk':k=s.size:=by omega
     subst hk'
     go_wp2_with fail
     refine (HC.out _).mono ?_
     rintro e w1 ⟨er,rfl,her,hb1⟩
     have her':(er==0)=false:=by rw[beq_eq_false_iff_ne];exact her
     clear her
     go_wp2
     go_ret
     exact ⟨rfl,hb1⟩
 ·have h1:=isText_encs ht
  have h2:nameOK s.data.toList=goodCs (uc s.data.toList):=by unfold nameOK;rw[ht];rfl
  rw[h2]
  exact r_name18 s _ w h1 (u_spec _).2.1 hz
theorem p_name(s:ByteArray)(w:World)(hT:Tabs w)(hz:s.size≤65536):
 Calls Tryz.prog 209 #[.string s] w fun e w'=>e= .returned (.bool (nameOK s.data.toList))∧Below w.heap.size w w':=by
 cases ht:isText s.data.toList
 ·obtain ⟨b1,b2⟩:=bad_of ht
  have hn:nameOK s.data.toList=false:=by unfold nameOK;rw[ht];rfl
  rw[hn]
  have hb1:(s.toList==[46])=false:=by rw[ByteArray.toList_eq,beq_eq_false_iff_ne];intro e;rw[e,text_dot] at ht;cases ht
  have hb2:(s.toList==[46,46])=false:=by rw[ByteArray.toList_eq,beq_eq_false_iff_ne];intro e;rw[e,text_dots] at ht;cases ht
  have HC:=hQ (fun (W:World) (hW:Tabs W)=>p_chars_bad s (uc s.data.toList) W hW (ub s.data.toList) (u_spec _).1 b1 b2 (u_spec _).2.1 hz)
  have HS:=hQ (fun W:World=>Tryz.strings_Contains_one s 47 W)
  rw[contains_index] at HS
  generalize s.data.toList.contains 47=sl at*
  have HT:=hQ hT
  clear ht b1 b2 hn hT
  go_enter Tryz.func209,Tryz.ntmps209
  go_wp2_with fail
  refine (HS.out _).mono ?_
  rintro e w0 ⟨rfl,rfl⟩
  cases sl
  ·go_wp2_with fail
   refine (HC.out _ HT.out).mono ?_
   rintro e w1 ⟨er,rfl,her,hb1⟩
   have her':(er==0)=false:=by rw[beq_eq_false_iff_ne];exact her
   clear her
   go_wp2
   go_ret
   exact ⟨rfl,hb1⟩
  ·go_wp2
   go_ret
   exact ⟨rfl,Below.refl _ _⟩
 ·have h1:=isText_encs ht
  have h2:nameOK s.data.toList=goodCs (uc s.data.toList):=by unfold nameOK;rw[ht];rfl
  rw[h2]
  exact p_name14 s _ w hT h1 (u_spec _).2.1 hz
end Go.Proofs.YtbeccmkegckjjaaGreatDoor
end
