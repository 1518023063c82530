/- Law 43, UdfbuildSizes: a part of the proof. -/
import Derived.Test.YtbeccmkegckjjaaGreatDoorQ05
import Derived.Test.YtbeccmkegckjjaaGreatDoorQ07
set_option linter.unusedVariables false
set_option linter.ambiguousOpen false
set_option linter.unusedSimpArgs false
section
namespace Go.Proofs.YtbeccmkegckjjaaGreatDoor
open Go.RowKit
set_option maxRecDepth 1000000
set_option maxHeartbeats 1600000
def ruleCells(f:NF)(kv sv:Value)(l:Nat):List Value:=
 [.string f.name, .int .i64 f.kind, .string f.data, .string f.target, .int .i64 f.mode, .int .i64 f.uid, .int .i64 f.gid, .int .i64 f.time, .int .i64 f.weight, .int .i64 f.hidden,kv,sv, .int .i64 (l:Int)]
def okKind(f:NF)(l:Nat):Bool:=(decide (0≤f.kind)&&decide (f.kind≤2))&&(!decide (l=1)||decide (f.kind=0))
noncomputable def okName(f:NF)(l:Nat):Bool:=if l=1 then decide (f.name.size=0) else nameOK f.name.data.toList
def okParts(f:NF)(kids:Nat):Bool:=(decide (f.kind=1)||(decide (f.data.size=0)&&decide (f.streams.length=0)))&&((decide (f.kind=2)||decide (f.target.size=0))&&(decide (f.kind=0)||decide (kids=0)))
def okNums(f:NF):Bool:=(decide (0≤f.mode)&&decide (f.mode≤4095))&&((decide (0≤f.uid)&&decide (f.uid≤65535))&&((decide (0≤f.gid)&&decide (f.gid≤65535))&&((decide (315532800≤f.time)&&decide (f.time≤4102444799))&&
 ((decide (-1048576≤f.weight)&&decide (f.weight≤1048576))&&(decide (0≤f.hidden)&&decide (f.hidden≤15))))))
theorem p_rkind(f:NF)(kv sv:Value)(l:Nat)(w:World):
 Calls Tryz.prog 108 #[.agg (ruleCells f kv sv l).toArray] w fun e w'=> ∃n:Int,e= .returned (.int .i64 n)∧(n=0↔okKind f l=true)∧Below w.heap.size w w':=by
 unfold ruleCells
 have hb:=below_alloc1 w
 by_cases h1:f.kind<0
 ·have ho:okKind f l=false:=by unfold okKind;rw[decide_eq_false (show ¬0≤f.kind by omega)];simp
  go_enter Tryz.func108,Tryz.ntmps108
  go_wp2
  go_ret
  exact ⟨_,rfl,by first|decide|simp[ho],hb _⟩
 ·by_cases h2:2<f.kind
  ·have ho:okKind f l=false:=by unfold okKind;rw[decide_eq_false (show ¬f.kind≤2 by omega)];simp
   have h1':0≤f.kind:=by omega
   go_enter Tryz.func108,Tryz.ntmps108
   go_wp2
   go_ret
   exact ⟨_,rfl,by first|decide|simp[ho],hb _⟩
  ·have h1':0≤f.kind:=by omega
   have h2':f.kind≤2:=by omega
   by_cases h3:l=1
   ·subst h3
    by_cases h4:f.kind=0
    ·have ho:okKind f 1=true:=by unfold okKind;rw[h4];rfl
     have h4':(f.kind != 0)=false:=by rw[h4];rfl
     have h4'':(f.kind==0)=true:=by rw[h4];rfl
     go_enter Tryz.func108,Tryz.ntmps108
     go_wp2
     go_ret
     exact ⟨_,rfl,by first|decide|simp[ho],hb _⟩
    ·have ho:okKind f 1=false:=by unfold okKind;rw[decide_eq_false h4];simp
     have h4':(f.kind != 0)=true:=by rw[bne_iff_ne];exact h4
     have h4'':(f.kind==0)=false:=by rw[beq_eq_false_iff_ne];exact h4
     go_enter Tryz.func108,Tryz.ntmps108
     go_wp2
     go_ret
     exact ⟨_,rfl,by first|decide|simp[ho],hb _⟩
   ·have ho:okKind f l=true:=by unfold okKind;rw[decide_eq_true h1',decide_eq_true h2',decide_eq_false h3];rfl
    have h3':((l:Int)==1)=false:=by rw[beq_eq_false_iff_ne];omega
    go_enter Tryz.func108,Tryz.ntmps108
    go_wp2
    go_ret
    exact ⟨_,rfl,by first|decide|simp[ho],hb _⟩
theorem size0_toList{s:ByteArray}(h:s.size=0):s.toList=[]:=by rw[ByteArray.toList_eq];exact List.length_eq_zero_iff.1 (by rw[len_data];exact h)
theorem empty_beq(s:ByteArray):(s.toList==[])=decide (s.size=0):=by
 rw[Bool.eq_iff_iff,beq_iff_eq,decide_eq_true_iff]
 refine ⟨fun h=>?_,size0_toList⟩
 rw[ByteArray.toList_eq] at h
 rw[←len_data,h];rfl
theorem p_rname(f:NF)(kv sv:Value)(l:Nat)(w:World)(hT:Tabs w)(hz:f.name.size≤65536)(hl:1≤l):
 Calls Tryz.prog 109 #[.agg (ruleCells f kv sv l).toArray] w fun e w'=> ∃n:Int,e= .returned (.int .i64 n)∧(n=0↔okName f l=true)∧Below w.heap.size w w':=by
 unfold ruleCells
 have hb:=below_alloc1 w
 by_cases h3:l=1
 ·subst h3
  have ho:okName f 1=decide (f.name.size=0):=rfl
  rw[ho, ←empty_beq]
  generalize hx:(f.name.toList==[])=x
  have hx':(f.name.toList != [])=!x:=by rw[←hx];rfl
  clear ho
  cases x
  all_goals
   go_enter Tryz.func109,Tryz.ntmps109
   go_wp2
   go_ret
   exact ⟨_,rfl,by decide,hb _⟩
 ·have ho:okName f l=nameOK f.name.data.toList:=by unfold okName;rw[if_neg h3]
  rw[ho]
  have h3':((l:Int)==1)=false:=by rw[beq_eq_false_iff_ne];omega
  have h4':(1:Int)<l:=by omega
  have HN:=hQ (fun (W:World) (hW:Tabs W)=>p_name f.name W hW hz)
  have HT:=hQ (fun o=>hT.step (hb o))
  generalize nameOK f.name.data.toList=x at*
  clear ho hT
  cases x
  all_goals
   go_enter Tryz.func109,Tryz.ntmps109
   go_wp2_with fail
   refine (HN.out _ (HT.out _)).mono ?_
   rintro e w1 ⟨rfl,hb1⟩
   go_wp2
   go_ret
   exact ⟨_,rfl,by decide,(hb _).trans (hb1.mono (hb _).size)⟩
theorem p_in(x a b:Int)(w:World):Calls Tryz.prog 211 #[.int .i64 x, .int .i64 a, .int .i64 b] w fun e w'=>e= .returned (.bool (decide (a≤x)&&decide (x≤b)))∧w'=w:=by
 by_cases h1:a≤x
 ·rw[decide_eq_true h1,Bool.true_and]
  by_cases h2:x≤b
  ·rw[decide_eq_true h2]
   go_enter Tryz.func211,Tryz.ntmps211
   go_wp2
   go_ret
   exact ⟨rfl,rfl⟩
  ·rw[decide_eq_false h2]
   have h2':b<x:=by omega
   go_enter Tryz.func211,Tryz.ntmps211
   go_wp2
   go_ret
   exact ⟨rfl,rfl⟩
 ·rw[decide_eq_false h1,Bool.false_and]
  have h1':x<a:=by omega
  go_enter Tryz.func211,Tryz.ntmps211
  go_wp2
  go_ret
  exact ⟨rfl,rfl⟩
end Go.Proofs.YtbeccmkegckjjaaGreatDoor
end
