/- Law 43, UdfbuildSizes: a part of the proof. -/
import Derived.Test.YtbeccmkegckjjaaGreatDoorQ30
import Derived.Deep.RegionWith
import Derived.Test.YtbeccmkegckjjaaGreatDoorQ34
section
namespace Go.Proofs.YtbeccmkegckjjaaGreatDoor
open Go.RowKit
set_option maxRecDepth 1000000
set_option maxHeartbeats 12800000
def needK(kind:Int)(count items:Nat):Nat:=if kind=1 then 1+count+outside (156+4*items) else if kind=2 then 3+count else if kind=3 then 4+2*roundedU (1+count) else 1+count
theorem r_table(na pa ea:Option Addr)(nl nc pl pc m ec c:Nat)(w:World)(hm:m≤100000):
 Calls Tryz.prog 53 #[.agg #[.slice na nl nc, .slice pa pl pc, .slice ea m ec, .int .i64 (c:Int)]] w fun e w'=>e= .returned (.int .i64 ((156+4*m:Nat):Int))∧Below w.heap.size w w':=by
 have HB0:=hQ (Box.new (ty:=70) w [.slice na nl nc, .slice pa pl pc, .slice ea m ec, .int .i64 (c:Int)])
 have hb1:=below_alloc1 w (.cells #[.slice na nl nc, .slice pa pl pc, .slice ea m ec, .int .i64 (c:Int)] 70)
 have hmi:(m:Int)≤100000:=by omega
 go_enter Tryz.func53,Tryz.ntmps53
 go_upto_region 1 with (fail)
 have hbox:=HB0.out
 generalize w.alloc _=w1 at*
 have c2:=hbox.cell 2 _ rfl
 clear HB0
 go_wp2
 go_ret
 exact ⟨ret_intB (by omega),hb1⟩
theorem roundedU_le(n:Nat):roundedU n≤n+7:=by unfold roundedU;split <;> omega
theorem r_need(na pa ea:Option Addr)(nl nc pl pc m ec c:Nat)(kind:Int)(w:World)(hm:m≤100000)(hc:c≤100000000)(hk:0≤kind∧kind≤3):
 Calls Tryz.prog 19 #[.agg #[.slice na nl nc, .slice pa pl pc, .slice ea m ec, .int .i64 (c:Int)], .int .i64 kind] w fun e w'=>e= .returned (.int .i64 (needK kind c m:Int))∧Below w.heap.size w w':=by
 have HB0:=hQ (Box.new (ty:=70) w [.slice na nl nc, .slice pa pl pc, .slice ea m ec, .int .i64 (c:Int)])
 have hb1:=below_alloc1 w (.cells #[.slice na nl nc, .slice pa pl pc, .slice ea m ec, .int .i64 (c:Int)] 70)
 have HT:=hQ (fun W:World=>r_table na pa ea nl nc pl pc m ec c W hm)
 have HO:=hQ (fun (k:Nat) (W:World) (h:k<4294967296)=>r_outside k W h)
 have HR:=hQ (fun (k:Nat) (W:World) (h:k<4294967296)=>r_rounded40 k W h)
 have hoz:=outside_le (156+4*m)
 have hrz:=roundedU_le (1+c)
 have hcz:(c:Int)≤100000000:=by omega
 have HO1:=hQ (fun W:World=>HO.out (156+4*m) W (by omega))
 have HR1:=hQ (fun W:World=>HR.out (1+c) W (by omega))
 rw[show ((1+c:Nat):Int)=1+(c:Int) by omega] at HR1
 have hoz':(outside (156+4*m):Int)≤1000000:=by omega
 have hrz':(roundedU (1+c):Int)≤200000000:=by omega
 have HN1:=hQ (show needK 1 c m=1+c+outside (156+4*m) from rfl)
 have HN3:=hQ (show needK 3 c m=4+2*roundedU (1+c) from rfl)
 generalize outside (156+4*m)=ov at*
 generalize roundedU (1+c)=rv at*
 generalize ((156+4*m:Nat):Int)=tv at*
 have hcase:kind=0∨kind=1∨kind=2∨kind=3:=by omega
 clear hk hoz hrz
 rcases hcase with rfl|rfl|rfl|rfl
 ·go_enter Tryz.func19,Tryz.ntmps19
  go_upto_region 1 with (fail)
  have hbox:=HB0.out
  generalize w.alloc _=w1 at*
  have c3:=hbox.cell 3 _ rfl
  clear HB0
  go_wp2
  go_ret
  exact ⟨ret_intB (by show _=((1+c:Nat):Int);omega),hb1⟩
 ·go_enter Tryz.func19,Tryz.ntmps19
  go_upto_region 1 with (fail)
  have hbox:=HB0.out
  generalize w.alloc _=w1 at*
  have c0:=hbox.cell 0 _ rfl
  have c1:=hbox.cell 1 _ rfl
  have c2:=hbox.cell 2 _ rfl
  have c3:=hbox.cell 3 _ rfl
  have hlt:=hbox.lt
  clear HB0
  go_upto_region 2 with (fail)
  go_region_with (first
   |(go_at_call 53;refine (HT.out _).mono ?_;rintro e w5 ⟨rfl,hb5⟩;have d3:=(hb5.cell (show w.heap.size<w1.drew.heap.size from hlt)).trans c3;have HB5:=hQ hb5;clear hb5)
   |(go_at_call 51;refine (HO1.out _).mono ?_;rintro e w6 ⟨rfl,rfl⟩))
  all_goals
   have hbf:=hb1.trans ((((below_drew (Below.refl w1.heap.size w1)).trans HB5.out)).mono hb1.size)
   go_wp2
   go_ret
   exact ⟨ret_intB (by rw[HN1.out];(try simp only[IntKind.wrap_i64]);omega),hbf⟩
 ·go_enter Tryz.func19,Tryz.ntmps19
  go_upto_region 1 with (fail)
  have hbox:=HB0.out
  generalize w.alloc _=w1 at*
  have c3:=hbox.cell 3 _ rfl
  clear HB0
  go_wp2
  go_ret
  exact ⟨ret_intB (by show _=((3+c:Nat):Int);omega),hb1⟩
 ·go_enter Tryz.func19,Tryz.ntmps19
  go_upto_region 1 with (fail)
  have hbox:=HB0.out
  generalize w.alloc _=w1 at*
  have c3:=hbox.cell 3 _ rfl
  clear HB0
  go_wp2_with fail
  refine (HR1.out _).mono ?_
  rintro e w5 ⟨rfl,rfl⟩
  go_wp2
  go_ret
  exact ⟨ret_intB (by rw[HN3.out];omega),hb1⟩
end Go.Proofs.YtbeccmkegckjjaaGreatDoor
end
section
namespace Go.Proofs.YtbeccmkegckjjaaGreatDoor
open Go.RowKit
set_option maxRecDepth 1000000
set_option maxHeartbeats 12800000
noncomputable def sizeA(ok:Bool)(kind:Int)(es:List FE):Int:=if knownK kind&&ok then (needK kind (cntTo es es.length) (itemsTo es es.length):Int) else 0
def sizeE(ok:Bool)(kind:Int):Int:=if knownK kind&&ok then 0 else 1
theorem ret_ii{a b c d:Int}(h1:a=c)(h2:b=d):Ending.returned (.tuple #[.int .i64 a, .int .i64 b])= .returned (.tuple #[.int .i64 c, .int .i64 d]):=by rw[h1,h2]
theorem r_sizeR(n:Nat)(t:NT n)(vs:List Value)(B:Nat)(w:World)(kind:Int)(h:NodeV w (· < B) n t vs)(hB:B≤w.heap.size)(hc:ntCount n t≤64)(hz:ntBytes n t≤65536)(hn:n≤900):
 Calls Tryz.prog 7 #[.agg vs.toArray, .int .i64 kind] w fun e w'=>e= .returned (.tuple #[.int .i64 (sizeA (treeOK n t) kind (fl n (ntView n t) 0)), .int .i64 (sizeE (treeOK n t) kind)])∧Below w.heap.size w w':=by
 obtain ⟨a,a2,l,c,l2,c2,rfl⟩:=h.cellsF
 have HP:=hQ (fun (W:World) (hb:Below w.heap.size w W)=>r_plan n t _ B W (h.below (hb.mono hB)) (Nat.le_trans hB hb.size) hc hz hn)
 have HB0:=hQ (Box.new (ty:=25) w (nfCells (ntF n t) (.slice a l c) (.slice a2 l2 c2)))
 have hb1:=below_alloc1 w (.cells (nfCells (ntF n t) (.slice a l c) (.slice a2 l2 c2)).toArray 25)
 have HGOOD:=hQ (show treeOK n t=true→ ∀e∈fl n (ntView n t) 0,GoodE e from fun hk=>fl_good n t 1 0 (Nat.le_refl _) hk hc hz)
 have HLEN:=hQ (show (fl n (ntView n t) 0).length≤64 by rw[fl_len];exact Nat.le_trans (ntCount_view n t) hc)
 have HK:=hQ (fun W:World=>r_kind kind W)
 have HKC:=hQ (knownK_cases kind)
 clear h hc hz
 generalize fl n (ntView n t) 0=es at*
 generalize treeOK n t=ok at*
 generalize ntF n t=f0 at*
 have HA:=hQ (show sizeA ok kind es=if knownK kind&&ok then (needK kind (cntTo es es.length) (itemsTo es es.length):Int) else 0 from rfl)
 have HE:=hQ (show sizeE ok kind=if knownK kind&&ok then 0 else 1 from rfl)
 generalize sizeA ok kind es=ra at*
 generalize sizeE ok kind=re at*
 unfold nfCells at HB0 hb1 HP ⊢
 go_enter Tryz.func7,Tryz.ntmps7
 go_upto_region 1 with (fail)
 have hboxA:=HB0.out
 generalize w.alloc _=w2 at*
 clear HB0
 go_wp2_with (first
  |(refine wpList_load_row rfl _ _ rfl w.heap.size _ _ _ rfl hboxA Tryz.underlying25 rfl 12 node_size rfl ?_)
  |fail)
 refine (HP.out _ hb1).mono ?_
 rintro e w3 ⟨hvt,hvf,hb3⟩
 have hbw3:=hb1.trans (hb3.mono hb1.size)
 clear hboxA HP hb1 hb3
 cases ok
 ·have he:=hvf rfl
  subst he
  rw[Bool.and_false] at HA HE
  have HAE:=hQ (show ra=0∧re=1 from ⟨HA.out,HE.out⟩)
  clear hvt hvf HA HE HGOOD HLEN HKC
  unfold planZ
  have hst:=box_store 70 w3 planZ [.slice none 0 0, .slice none 0 0, .slice none 0 0, .int .i64 0]
  go_upto_region 2 with (first
   |(refine wpList_store_row rfl _ _ _ rfl w3.heap.size _ planZ #[.slice none 0 0, .slice none 0 0, .slice none 0 0, .int .i64 0] rfl rfl (heap_alloc_last _ _) 4 plan_size rfl rfl (plan_one _ _ _ _ _ _ _ _ _ _) ?_)
   |go_in)
  unfold planZ at hst
  generalize World.setRow _ _ _=w4 at hst ⊢
  have hbw4:=hbw3.trans (hst.2.mono hbw3.size)
  clear hst
  go_wp2_with fail
  refine (HK.out _).mono ?_
  rintro e w5 ⟨rfl,rfl⟩
  cases knownK kind
  ·go_wp2
   go_ret2
   exact ⟨ret_ii HAE.out.1.symm HAE.out.2.symm,hbw4⟩
  ·go_wp2
   go_ret2
   exact ⟨ret_ii HAE.out.1.symm HAE.out.2.symm,hbw4⟩
 ·obtain ⟨na,pa,ea,nl,nc,pl,pc,ec,he⟩:=hvt rfl
  subst he
  rw[Bool.and_true] at HA HE
  have hg:=HGOOD.out rfl
  have hcb:=cntTo_le es hg es.length (Nat.le_refl _)
  have hib:=itemsTo_le es hg es.length (Nat.le_refl _)
  have hlen:=HLEN.out
  have HCB:=hQ (show cntTo es es.length≤100000000 by omega)
  have HIB:=hQ (show itemsTo es es.length≤100000 by omega)
  clear hvt hvf hg hcb hib hlen HGOOD HLEN
  generalize cntTo es es.length=cn at*
  generalize itemsTo es es.length=it at*
  have hst:=box_store 70 w3 planZ [.slice na nl nc, .slice pa pl pc, .slice ea it ec, .int .i64 (cn:Int)]
  go_upto_region 2 with (first
   |(refine wpList_store_row rfl _ _ _ rfl w3.heap.size _ planZ #[.slice na nl nc, .slice pa pl pc, .slice ea it ec, .int .i64 (cn:Int)] rfl rfl (heap_alloc_last _ _) 4 plan_size rfl rfl (plan_one _ _ _ _ _ _ _ _ _ _) ?_)
   |go_in)
  unfold planZ at hst
  generalize World.setRow _ _ _=w4 at hst ⊢
  obtain ⟨hboxP,hb4⟩:=hst
  have hbw4:=hbw3.trans (hb4.mono hbw3.size)
  clear hb4
  go_wp2_with fail
  refine (HK.out _).mono ?_
  rintro e w5 ⟨rfl,rfl⟩
  rcases HKC.out with ⟨h1,h2⟩|⟨h1,h2⟩|⟨h1,h1',h2⟩
  ·rw[h2] at HA HE ⊢
   have HAE:=hQ (show ra=0∧re=1 from ⟨HA.out,HE.out⟩)
   clear HA HE h1 h2
   go_wp2
   go_ret2
   exact ⟨ret_ii HAE.out.1.symm HAE.out.2.symm,hbw4⟩
  ·rw[h2] at HA HE ⊢
   have HAE:=hQ (show ra=0∧re=1 from ⟨HA.out,HE.out⟩)
   clear HA HE h1 h2
   go_wp2
   go_ret2
   exact ⟨ret_ii HAE.out.1.symm HAE.out.2.symm,hbw4⟩
  ·rw[h2] at HA HE ⊢
   have HAE:=hQ (show ra=(needK kind cn it:Int)∧re=0 from ⟨HA.out,HE.out⟩)
   have HN:=hQ (fun W:World=>r_need na pa ea nl nc pl pc it ec cn kind W HIB.out HCB.out ⟨h1,h1'⟩)
   clear HA HE h1 h1' h2
   go_wp2_with (first
    |(refine wpList_load_row rfl _ _ rfl w3.heap.size _ _ _ rfl hboxP Tryz.underlying70 rfl 4 plan_size rfl ?_)
    |fail)
   refine (HN.out _).mono ?_
   rintro e w6 ⟨rfl,hb6⟩
   go_wp2
   go_ret2
   exact ⟨ret_ii HAE.out.1.symm HAE.out.2.symm,hbw4.trans (hb6.mono hbw4.size)⟩
end Go.Proofs.YtbeccmkegckjjaaGreatDoor
end
