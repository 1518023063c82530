/- Law 43, UdfbuildSizes: a part of the proof. -/
import Derived.Test.YtbeccmkegckjjaaGreatDoorQ10
set_option linter.unusedVariables false
set_option linter.ambiguousOpen false
set_option linter.unusedSimpArgs false
section
namespace Go.Proofs.YtbeccmkegckjjaaGreatDoor
open Go.RowKit
set_option maxRecDepth 1000000
set_option maxHeartbeats 3200000
def numsB(a b c d e f g h i j k l:Bool):Bool:=(a&&b)&&((c&&d)&&((e&&f)&&((g&&h)&&((i&&j)&&(k&&l)))))
theorem okNums_B(f:NF):okNums f=numsB (decide (0≤f.mode)) (decide (f.mode≤4095)) (decide (0≤f.uid)) (decide (f.uid≤65535)) (decide (0≤f.gid)) (decide (f.gid≤65535)) (decide (315532800≤f.time)) (decide (f.time≤4102444799)) (decide ((-1048576)≤f.weight)) (decide (f.weight≤1048576)) (decide (0≤f.hidden)) (decide (f.hidden≤15)):=rfl
theorem r_ranged(f:NF)(a a2:Option Addr)(l c l2 c2:Nat)(w:World):
 Calls Tryz.prog 395 #[.agg (nfCells f (.slice a l c) (.slice a2 l2 c2)).toArray] w fun e w'=>e= .returned (.bool (okNums f))∧Below w.heap.size w w':=by
 have HOK:=hQ (okNums_B f)
 have HB:=hQ (below_alloc1 w)
 unfold nfCells
 by_cases h0:0≤f.mode
 rotate_left
 ·have y:f.mode<0:=by omega
  have HR:=hQ (show okNums f=false by rw[HOK.out,decide_eq_false h0];simp only[numsB,Bool.false_and,Bool.and_false,Bool.true_and,Bool.and_true])
  clear HOK h0
  go_enter Tryz.func395,Tryz.ntmps395
  go_wp2
  go_ret
  exact ⟨ret_bool' HR.out.symm,HB.out _⟩
 by_cases h1:f.mode≤4095
 rotate_left
 ·have y:4095<f.mode:=by omega
  have HR:=hQ (show okNums f=false by rw[HOK.out,decide_eq_false h1];simp only[numsB,Bool.false_and,Bool.and_false,Bool.true_and,Bool.and_true])
  clear HOK h1
  go_enter Tryz.func395,Tryz.ntmps395
  go_wp2
  go_ret
  exact ⟨ret_bool' HR.out.symm,HB.out _⟩
 by_cases h2:0≤f.uid
 rotate_left
 ·have y:f.uid<0:=by omega
  have HR:=hQ (show okNums f=false by rw[HOK.out,decide_eq_false h2];simp only[numsB,Bool.false_and,Bool.and_false,Bool.true_and,Bool.and_true])
  clear HOK h2
  go_enter Tryz.func395,Tryz.ntmps395
  go_wp2
  go_ret
  exact ⟨ret_bool' HR.out.symm,HB.out _⟩
 by_cases h3:f.uid≤65535
 rotate_left
 ·have y:65535<f.uid:=by omega
  have HR:=hQ (show okNums f=false by rw[HOK.out,decide_eq_false h3];simp only[numsB,Bool.false_and,Bool.and_false,Bool.true_and,Bool.and_true])
  clear HOK h3
  go_enter Tryz.func395,Tryz.ntmps395
  go_wp2
  go_ret
  exact ⟨ret_bool' HR.out.symm,HB.out _⟩
 by_cases h4:0≤f.gid
 rotate_left
 ·have y:f.gid<0:=by omega
  have HR:=hQ (show okNums f=false by rw[HOK.out,decide_eq_false h4];simp only[numsB,Bool.false_and,Bool.and_false,Bool.true_and,Bool.and_true])
  clear HOK h4
  go_enter Tryz.func395,Tryz.ntmps395
  go_wp2
  go_ret
  exact ⟨ret_bool' HR.out.symm,HB.out _⟩
 by_cases h5:f.gid≤65535
 rotate_left
 ·have y:65535<f.gid:=by omega
  have HR:=hQ (show okNums f=false by rw[HOK.out,decide_eq_false h5];simp only[numsB,Bool.false_and,Bool.and_false,Bool.true_and,Bool.and_true])
  clear HOK h5
  go_enter Tryz.func395,Tryz.ntmps395
  go_wp2
  go_ret
  exact ⟨ret_bool' HR.out.symm,HB.out _⟩
 by_cases h6:315532800≤f.time
 rotate_left
 ·have y:f.time<315532800:=by omega
  have HR:=hQ (show okNums f=false by rw[HOK.out,decide_eq_false h6];simp only[numsB,Bool.false_and,Bool.and_false,Bool.true_and,Bool.and_true])
  clear HOK h6
  go_enter Tryz.func395,Tryz.ntmps395
  go_wp2
  go_ret
  exact ⟨ret_bool' HR.out.symm,HB.out _⟩
 by_cases h7:f.time≤4102444799
 rotate_left
 ·have y:4102444799<f.time:=by omega
  have HR:=hQ (show okNums f=false by rw[HOK.out,decide_eq_false h7];simp only[numsB,Bool.false_and,Bool.and_false,Bool.true_and,Bool.and_true])
  clear HOK h7
  go_enter Tryz.func395,Tryz.ntmps395
  go_wp2
  go_ret
  exact ⟨ret_bool' HR.out.symm,HB.out _⟩
 by_cases h8:(-1048576)≤f.weight
 rotate_left
 ·have y:f.weight<(-1048576):=by omega
  have HR:=hQ (show okNums f=false by rw[HOK.out,decide_eq_false h8];simp only[numsB,Bool.false_and,Bool.and_false,Bool.true_and,Bool.and_true])
  clear HOK h8
  go_enter Tryz.func395,Tryz.ntmps395
  go_wp2
  go_ret
  exact ⟨ret_bool' HR.out.symm,HB.out _⟩
 by_cases h9:f.weight≤1048576
 rotate_left
 ·have y:1048576<f.weight:=by omega
  have HR:=hQ (show okNums f=false by rw[HOK.out,decide_eq_false h9];simp only[numsB,Bool.false_and,Bool.and_false,Bool.true_and,Bool.and_true])
  clear HOK h9
  go_enter Tryz.func395,Tryz.ntmps395
  go_wp2
  go_ret
  exact ⟨ret_bool' HR.out.symm,HB.out _⟩
 by_cases h10:0≤f.hidden
 rotate_left
 ·have y:f.hidden<0:=by omega
  have HR:=hQ (show okNums f=false by rw[HOK.out,decide_eq_false h10];simp only[numsB,Bool.false_and,Bool.and_false,Bool.true_and,Bool.and_true])
  clear HOK h10
  go_enter Tryz.func395,Tryz.ntmps395
  go_wp2
  go_ret
  exact ⟨ret_bool' HR.out.symm,HB.out _⟩
 by_cases h11:f.hidden≤15
 rotate_left
 ·have y:15<f.hidden:=by omega
  have HR:=hQ (show okNums f=false by rw[HOK.out,decide_eq_false h11];simp only[numsB,Bool.false_and,Bool.and_false,Bool.true_and,Bool.and_true])
  clear HOK h11
  go_enter Tryz.func395,Tryz.ntmps395
  go_wp2
  go_ret
  exact ⟨ret_bool' (by first|exact HR.out.symm|exact (decide_eq_false (show ¬f.hidden≤15 by omega)).trans HR.out.symm),HB.out _⟩
 have HR:=hQ (show okNums f=true by rw[HOK.out,decide_eq_true h0,decide_eq_true h1,decide_eq_true h2,decide_eq_true h3,decide_eq_true h4,decide_eq_true h5,decide_eq_true h6,decide_eq_true h7,decide_eq_true h8,decide_eq_true h9,decide_eq_true h10,decide_eq_true h11];rfl)
 clear HOK
 go_enter Tryz.func395,Tryz.ntmps395
 go_wp2
 go_ret
 exact ⟨ret_bool' HR.out.symm,HB.out _⟩
theorem r_large(f:NF)(ka a:Option Addr)(kl kc c l B:Nat)(w:World)(hB:B≤w.heap.size)(hd:f.data.size≤262144)(hkl:kl≤64)(hsz: ∀s∈f.streams,s.2.size≤262144)
 (hrow: ∀j,(h:j<f.streams.length)→ ∃b off,a=some ⟨b,off,none⟩∧b<B∧w.cell? ⟨b,off+j*2,none⟩=some (.string f.streams[j].1)∧w.cell? ⟨b,off+j*2+1,none⟩=some (.string f.streams[j].2)):
 Calls Tryz.prog 396 #[.agg (nfCells f (.slice ka kl kc) (.slice a f.streams.length c)).toArray, .int .i64 l] w fun e w'=>e= .returned (.bool (!okSizes f l))∧Below w.heap.size w w':=by
 have hd':(f.data.size:Int)≤262144:=by omega
 have hk':(kl:Int)≤64:=by omega
 have HROW:=hQ hrow
 have HSZ:=hQ hsz
 have HB2:=hQ (below_alloc1 w)
 have HB0:=hQ (Box.new (ty:=25) w (nfCells f (.slice ka kl kc) (.slice a f.streams.length c)))
 clear hrow hsz
 by_cases h1:l≤16
 ·have h1':(l:Int)≤16:=by omega
  by_cases h2:f.streams.length≤4
  ·have h2':(f.streams.length:Int)≤4:=by omega
   have HR:=hQ (show (!okSizes f l)=false by unfold okSizes;rw[decide_eq_true h1,decide_eq_true h2];rfl)
   unfold nfCells at HB0 ⊢
   go_enter Tryz.func396,Tryz.ntmps396
   go_wp2_with fail
   go_loopw [5] (fun i wr=> ∃k:Nat,k≤f.streams.length∧i= .int .i64 k∧Below w.heap.size w wr∧Box 25 w.heap.size (nfCells f (.slice ka kl kc) (.slice a f.streams.length c)) wr) (fun i _=>f.streams.length-(intOf i).toNat)
   case atStart=>exact ⟨0,Nat.zero_le _,rfl,HB2.out _,HB0.out⟩
   case round=>
    obtain ⟨k,hk,rfl,hbw,hbox⟩:=hrel
    have c11:=hbox.cell 11 _ rfl
    by_cases hlt:k<f.streams.length
    ·have hi:(k:Int)<f.streams.length:=by omega
     obtain ⟨b,off,rfl,hbB,hcell,hcell2⟩:=HROW.out k hlt
     have d1:=(hbw.cell (Nat.lt_of_lt_of_le hbB hB)).trans hcell2
     have hz:=HSZ.out f.streams[k] (List.getElem_mem hlt)
     clear hcell hcell2
     generalize f.streams[k]=st at*
     obtain ⟨s1,s2⟩:=st
     dsimp only at d1 hz
     have hz':(s2.size:Int)≤262144:=by omega
     go_wp2
     go_roundw
     case rel=>exact ⟨k+1,by omega,by go_num,hbw,hbox⟩
     case measure=>simp[intOf];omega
    ·have hi:(f.streams.length:Int)≤k:=by omega
     go_wp2
     go_ret
     exact ⟨ret_bool' HR.out.symm,hbw⟩
  ·have h2':(4:Int)<f.streams.length:=by omega
   have HR:=hQ (show (!okSizes f l)=true by unfold okSizes;rw[decide_eq_true h1,decide_eq_false h2];rfl)
   unfold nfCells
   go_enter Tryz.func396,Tryz.ntmps396
   go_wp2
   go_ret
   exact ⟨ret_bool' HR.out.symm,HB2.out _⟩
 ·have h1':(16:Int)<l:=by omega
  have HR:=hQ (show (!okSizes f l)=true by unfold okSizes;rw[decide_eq_false h1];rfl)
  unfold nfCells
  go_enter Tryz.func396,Tryz.ntmps396
  go_wp2
  go_ret
  exact ⟨ret_bool' HR.out.symm,HB2.out _⟩
end Go.Proofs.YtbeccmkegckjjaaGreatDoor
end
