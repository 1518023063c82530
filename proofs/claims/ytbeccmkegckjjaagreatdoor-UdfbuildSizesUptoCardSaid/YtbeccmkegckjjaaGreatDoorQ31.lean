/- Law 43, UdfbuildSizes: a part of the proof. -/
import Derived.Test.YtbeccmkegckjjaaGreatDoorQ30
import Derived.Deep.DeepCutAuto
import Derived.Deep.RegionLaw
section
namespace Go.Proofs.YtbeccmkegckjjaaGreatDoor
open Go.RowKit
set_option maxRecDepth 1000000
set_option maxHeartbeats 12800000
theorem info_item:(Tryz.prog.info? 177).map (fun i=>(i.zero,i.size,i.bytes))=some (some (.agg #[.int .i64 0, .int .i64 0, .int .i64 0, .int .i64 0, .int .i64 0]),5,40):=by kernel_rfl
structure OS (w0 w:World) (go:Nat) (nv iv:Value) (m c:Nat):Prop where
 lt:go<w0.heap.size
 frame:Kp (fun b=>b=go) w0 w
 box:Box 116 go [nv,iv, .int .i64 (c:Int)] w
 items: ∃xs,w.ownsRow w0.heap.size 177 5 iv m xs
theorem OS.step{w0 w w':World}{go:Nat}{nv iv:Value}{m c:Nat}(h:OS w0 w go nv iv m c)(hb:Below w.heap.size w w'):OS w0 w' go nv iv m c:=
 ⟨h.lt,h.frame.far (Kp.of (C:=fun _=>False) hb) fun _ h=>h.elim,h.box.step hb,h.items.elim fun xs hx=>⟨xs,own_below' hx hb⟩⟩
theorem OS.count{w0 w:World}{go:Nat}{nv iv:Value}{m c:Nat}(h:OS w0 w go nv iv m c)(c':Nat):OS w0 (w.setCell ⟨go,2,none⟩ (.int .i64 (c':Int))) go nv iv m c':=by
 have hk:=Kp.setIn w go 2 (.int .i64 (c':Int))
 have hl:=h.lt
 exact ⟨h.lt,h.frame.far hk fun b hb=> .inl hb,h.box.setCell 2 _,h.items.elim fun xs hx=>⟨xs,own_kp hx hk fun b hb hd=>by have:=(hx.lt b hb).1;omega⟩⟩
theorem OS.item{w0 w w1 w':World}{go:Nat}{nv iv iv':Value}{m c:Nat}{ys zs:List Value}(h:OS w0 w go nv iv m c)(hy:w.ownsRow w0.heap.size 177 5 iv m ys)(h01:Below w.heap.size w w1)(ho:w'.ownsRow w0.heap.size 177 5 iv' (m+1) zs)(hg:w1.grownBy w' iv.ownBlock):
 w'.cell? ⟨go,1,none⟩=some iv∧w'.frozen? ⟨go,1,none⟩=false∧OS w0 (w'.setCell ⟨go,1,none⟩ iv') go nv iv' (m+1) c∧Kp (fun b=>b=go∨iv.ownBlock=some b) w (w'.setCell ⟨go,1,none⟩ iv'):=by
 have hl:=h.lt
 have hk1:Kp (fun b=>iv.ownBlock=some b) w w':=(Kp.of h01).trans (Kp.of_grown hg fun g hg=>hg)
 have hgp: ¬iv.ownBlock=some go:=fun e=>by have:=(hy.lt go e).1;omega
 have hbox:=h.box.kp hk1 hgp
 have hk2:=Kp.setIn w' go 1 iv'
 exact ⟨hbox.cell 1 _ rfl,hbox.frozen 1,⟨h.lt,(h.frame.far hk1 fun b hb=> .inr (hy.lt b hb).1).far hk2 fun b hb=> .inl hb,hbox.setCell 1 _,⟨zs,own_kp ho hk2 fun b hb hd=>by have:=(ho.lt b hb).1;omega⟩⟩,(hk1.wk fun b hb=> .inr hb).trans (hk2.wk fun b hb=> .inl hb)⟩
theorem p_put(w0 w:World)(go:Nat)(nv iv:Value)(m c kind node stream len:Nat)(h:OS w0 w go nv iv m c)(hm:m≤100000)(hc:c≤100000000)(hl:len≤100000000):
 Calls Tryz.prog 46 #[.pointer (some ⟨go,0,none⟩), .int .i64 (kind:Int), .int .i64 (node:Int), .int .i64 (stream:Int), .int .i64 (len:Int)] w fun e w'=>e= .returned (.tuple #[])∧ ∃iv',OS w0 w' go nv iv' (m+1) (c+(1+outside len))∧Kp (fun b=>b=go∨iv.ownBlock=some b) w w':=by
 obtain ⟨i0,hi0,hx0,hx1,hx2⟩:=info_parts info_item
 have HO:=hQ (fun W:World=>p_outer len W (by omega))
 have hoz:=outside_le len
 obtain ⟨ys,hy⟩:=h.items
 obtain ⟨ia,ic,rfl⟩:=own_slice hy
 have c1:=h.box.cell 1 _ rfl
 have c2:=h.box.cell 2 _ rfl
 have hal:=fun o=>below_alloc1 w o
 have c2A:=fun o=>((hal o).cell (World.block_lt_of_cell? _ _ c2)).trans c2
 have hcz:(c:Int)≤100000000:=by omega
 have hmz:(m:Int)≤100000:=by omega
 have HOS:=hQ h
 have HY:=hQ hy
 generalize hov:outside len=ov at*
 have hovz:(ov:Int)≤100000000:=by omega
 clear h hy hov hoz hl hm hc
 go_enter Tryz.func46,Tryz.ntmps46
 go_upto_region 0 with (fail)
 go_cut [10] (fun pp wx=> ∃q,pp= .pointer (some ⟨q,0,none⟩)∧Box 177 q [.int .i64 (kind:Int), .int .i64 (node:Int), .int .i64 (stream:Int), .int .i64 (c:Int), .int .i64 (ov:Int)] wx∧Below w.heap.size w wx∧w.heap.size≤q)
 case first=>
  go_region_with (first
   |(go_at_call 120;refine (HO.out _).mono ?_;rintro e wz ⟨rfl,rfl⟩))
  all_goals
   go_wp2_with fail
   go_meet
   case rel=>
    exact ⟨w.heap.size,rfl,(Box.new (ty:=177) w [.int .i64 (kind:Int), .int .i64 (node:Int), .int .i64 (stream:Int), .int .i64 (c:Int), .int .i64 (ov:Int)]).step (below_drew (Below.refl _ _)),below_drew (below_alloc1 w _),Nat.le_refl _⟩
 case rest=>
  obtain ⟨q,rfl,hbI,hbw,hq⟩:=hcut
  have HKW:=hQ (Kp.of (C:=fun b=>b=go∨(Value.slice ia m ic).ownBlock=some b) hbw)
  have hos:=HOS.out.step hbw
  have hy:=own_below' HY.out hbw
  have hqy: ∀b,(Value.slice ia m ic).ownBlock=some b→b≠q:=fun b hb=>by have:=(HY.out.lt b hb).2;omega
  have hqo:q≠go:=by have:=HOS.out.lt;have:=HOS.out.frame.size;omega
  clear c1 c2 hal c2A HOS HY HO
  have HI:=hQ hbI
  have HOS:=hQ hos
  have HY:=hQ hy
  have d1:=hos.box.cell 1 _ rfl
  have j0:=hbI.cell 0 _ rfl
  have j1:=hbI.cell 1 _ rfl
  have j2:=hbI.cell 2 _ rfl
  have j3:=hbI.cell 3 _ rfl
  have j4:=hbI.cell 4 _ rfl
  have hal:=fun o=>below_alloc1 wc o
  have d1A:=fun o=>((hal o).cell (World.block_lt_of_cell? _ _ d1)).trans d1
  clear hbI hos hy
  go_upto_region 1 with (fail)
  go_cut [] (fun wx=> ∃iv',OS w0 wx go nv iv' (m+1) c∧Kp (fun b=>b=go∨(Value.slice ia m ic).ownBlock=some b) w wx∧Box 177 q [.int .i64 (kind:Int), .int .i64 (node:Int), .int .i64 (stream:Int), .int .i64 (c:Int), .int .i64 (ov:Int)] wx)
  case first=>
   have HAD1:=hQ (fun o=>below_drew (below_alloc1 wc o))
   have HAD2:=hQ (fun o=>(below_drew (Below.refl wc.heap.size wc)).trans ((below_alloc1 wc.drew o).mono (below_drew (Below.refl wc.heap.size wc)).size))
   go_region_law (
    refine step_append_own rfl _ _ 114 rfl w0.heap.size 177 i0 (.agg #[.int .i64 0, .int .i64 0, .int .i64 0, .int .i64 0, .int .i64 0]) 5 40 Tryz.underlying114 hi0 hx0 hx1 hx2 rfl (by decide) (.slice ia m ic) m ys rfl ?_ ⟨wc.heap.size,0,none⟩ 1 1 [.int .i64 (kind:Int), .int .i64 (node:Int), .int .i64 (stream:Int), .int .i64 (c:Int), .int .i64 (ov:Int)] rfl rfl ?_ ?_ ?_ ?_ ?_ ?_
    ·first|exact own_below' HY.out (HAD1.out _)|exact own_below' HY.out (HAD2.out _)
    ·exact World.news_of_block (fr:=(0,0)) (heap_alloc_last _ _)
    ·intro u hu
     simp only[List.mem_cons,List.not_mem_nil,or_false] at hu
     rcases hu with rfl|rfl|rfl|rfl|rfl <;> rfl
    ·unfold maxLen;omega
    ·omega
    ·first|exact Nat.le_trans HOS.out.frame.size (HAD1.out _).size|exact Nat.le_trans HOS.out.frame.size (HAD2.out _).size
    intro iv' w6 hown6 hgrow6
    obtain ⟨ia6,ic6,rfl⟩:=own_slice hown6
    have HIT:=hQ (show _∧_ from (by first|exact OS.item HOS.out HY.out (HAD1.out _) hown6 hgrow6|exact OS.item HOS.out HY.out (HAD2.out _) hown6 hgrow6))
    have q1:=HIT.out.1
    have f1:=HIT.out.2.1
    clear hown6 hgrow6)
   all_goals
    go_wp2_with fail
    go_meet
    case rel=>exact ⟨_,HIT.out.2.2.1,HKW.out.trans HIT.out.2.2.2,HI.out.kp HIT.out.2.2.2 (fun hd=>hd.elim (fun h=>hqo h) fun h=>hqy q h rfl)⟩
  case rest=>
   obtain ⟨iv2,hos2,hkp2,hbI2⟩:=hcut
   clear HI HOS HY d1 j0 j1 j2 j3 j4 hal d1A hbw
   have e2:=hos2.box.cell 2 _ rfl
   have f2:=hos2.box.frozen 2
   have e4:=hbI2.cell 4 _ rfl
   have hcD:((c+(1+ov):Nat):Int)=(c:Int)+(1+(ov:Int)):=by omega
   have hR:=(hos2.count (c+(1+ov))).step (below_drew (Below.refl _ _))
   rw[hcD] at hR
   have HR:=hQ hR
   have HKR:=hQ ((hkp2.trans ((Kp.setIn wc go 2 (.int .i64 ((c:Int)+(1+(ov:Int))))).wk fun b hb=> .inl hb)).trans (Kp.of (below_drew (Below.refl _ _))))
   clear hR hcD hos2 hbI2 hkp2
   go_upto_region 2 with (fail)
   go_region
   all_goals
    exact ⟨rfl, .tuple #[],by simp[results,Tryz.results46],rfl,_,HR.out,HKR.out⟩
end Go.Proofs.YtbeccmkegckjjaaGreatDoor
end
section
namespace Go.Proofs.YtbeccmkegckjjaaGreatDoor
open Go.RowKit
set_option maxRecDepth 1000000
set_option maxHeartbeats 12800000
end Go.Proofs.YtbeccmkegckjjaaGreatDoor
end
