/- Law 43, UdfbuildSizes: a part of the proof. -/
import Derived.Test.YtbeccmkegckjjaaGreatDoorQ09
set_option linter.unusedVariables false
set_option linter.ambiguousOpen false
set_option linter.unusedSimpArgs false
section
namespace Go.Proofs.YtbeccmkegckjjaaGreatDoor
open Go.RowKit
set_option maxRecDepth 1000000
set_option maxHeartbeats 1600000
def cntStep(_:NF × List NF)(_:Nat)(c:Nat):Nat × Bool:=(c+1,true)
theorem ntWalk_cnt: ∀(n:Nat) (t:NT n) (l c:Nat),ntWalk cntStep n t l c=(c+ntCount n t,true)
 |0,_,_,_=>rfl
 |n+1,t,l,c=>by
  rw[ntWalk,if_pos (show (cntStep (t.1,t.2.map (ntF n)) l c).2=true from rfl)]
  have key: ∀(ks:List (NT n)) (d:Nat),ks.foldl (fun y k=>if y.2 then ntWalk cntStep n k (l+1) y.1 else y) (d,true)=(d+(ks.map (ntCount n)).sum,true):=fun ks=>by
   induction ks with
   |nil=>intro d;rfl
   |cons k ks ih=>
    intro d
    rw[List.foldl_cons,if_pos rfl,ntWalk_cnt n k,ih,List.map_cons,List.sum_cons,Nat.add_assoc]
  refine (key t.2 (c+1)).trans ?_
  show (c+1+_,true)=(c+(1+_),true)
  rw[Nat.add_assoc]
def CSt(g:Nat)(c:Nat)(w:World):Prop:=w.heap[g]? =some (.cells #[.int .i64 (wrap64 (c:Int))] 3 (0,0))
theorem wrap_step(c:Nat):wrap64 (wrap64 (c:Int)+1)=wrap64 ((c+1:Nat):Int):=by unfold wrap64;omega
theorem Kp.setCell(w:World)(g:Nat)(v:Value):Kp (fun b=>b=g) w (w.setCell ⟨g,0,none⟩ v):=
 ⟨rfl,rfl,rfl,by simp[World.setCell],fun b _ hb=>Below.heap_setCell w ⟨g,0,none⟩ v b hb⟩
theorem p_count1(B g:Nat):VisOKC cntStep (CSt g) B (g+1) (fun b=>b=g) g:=fun n t vs w path l s hN hD hs _ _ _=>by
 obtain ⟨f,a,a2,l1,c1,l2,c2,rfl⟩:=hN.cells
 have hlt:g<w.heap.size:=by omega
 unfold CSt at hs
 have hg1:=(Below.heap_alloc w (.cells (nfCells f (.slice a l1 c1) (.slice a2 l2 c2)).toArray 25) g hlt).trans hs
 have hc:=cell_of_one hg1
 have hf:=free_of_one hg1
 have hb1:=below_alloc1 w (.cells (nfCells f (.slice a l1 c1) (.slice a2 l2 c2)).toArray 25)
 have HS:=hQ hs
 clear hs hN
 generalize hx:wrap64 (s:Int)=x at*
 have HX:=hQ (show wrap64 (x+1)=wrap64 ((s+1:Nat):Int) by rw[←hx];exact wrap_step s)
 clear hx
 unfold nfCells at hc hf hb1 ⊢
 go_enter Tryz.func207,Tryz.ntmps207
 go_wp2
 go_ret
 have h2:=one_setCell (u:= .int .i64 (wrap64 (x+1))) HS.out
 refine ⟨rfl,?_,(Kp.setCell w g _).trans (Kp.of (below_alloc1 _ _))⟩
 show _=some (Obj.cells #[.int .i64 (wrap64 ((s+1:Nat):Int))] 3 (0,0))
 rw[←HX.out]
 exact (Below.heap_alloc _ _ g (Array.getElem?_eq_some_iff.1 h2).1).trans h2
theorem p_count(n:Nat)(t:NT n)(vs:List Value)(w:World)(h:NodeV w (· < w.heap.size) n t vs)(hn:n≤90)(hc:ntCount n t≤1000)(hz:ntBytes n t≤40000):
 Calls Tryz.prog 105 #[.agg vs.toArray] w fun e w'=>e= .returned (.int .i64 ((ntCount n t:Nat):Int))∧Below w.heap.size w w':=by
 have h0:=h
 obtain ⟨f,a,a2,l1,c1,l2,c2,rfl⟩:=h.cells
 have hb1:=below_alloc1 w (.cells (nfCells f (.slice a l1 c1) (.slice a2 l2 c2)).toArray 25)
 have HB0:=hQ (Box.new (ty:=25) w (nfCells f (.slice a l1 c1) (.slice a2 l2 c2)))
 have HWK:=hQ (fun (W:World) (hb:Below w.heap.size w W) (hD:w.heap.size+1+1≤W.heap.size) (hs:CSt (w.heap.size+1) 0 W)=>
  p_walkC cntStep (CSt (w.heap.size+1)) w.heap.size (w.heap.size+1+1) (fun b=>b=w.heap.size+1) (w.heap.size+1) (fun b hb=>by omega) (by omega)
   (fun s w1 w2 h1 h2=>(h2.block _ (Array.getElem?_eq_some_iff.1 h1).1).trans h1) (p_count1 w.heap.size (w.heap.size+1)) n t _ W ⟨#[]⟩ 1 0 (h0.below hb) hD hs (by omega) (by show 0+_≤_;omega) hz)
 rw[ntWalk_cnt] at HWK
 unfold nfCells at HWK hb1 ⊢
 go_enter Tryz.func105,Tryz.ntmps105
 go_wp2_with fail
 have hst0:CSt (w.heap.size+1) 0 ((w.alloc (.cells #[.string f.name, .int .i64 f.kind, .string f.data, .string f.target, .int .i64 f.mode, .int .i64 f.uid, .int .i64 f.gid, .int .i64 f.time, .int .i64 f.weight, .int .i64 f.hidden, .slice a l1 c1, .slice a2 l2 c2] 25)).alloc (.cells #[.int .i64 0] 3)):=by
  have e:(w.alloc (.cells #[.string f.name, .int .i64 f.kind, .string f.data, .string f.target, .int .i64 f.mode, .int .i64 f.uid, .int .i64 f.gid, .int .i64 f.time, .int .i64 f.weight, .int .i64 f.hidden, .slice a l1 c1, .slice a2 l2 c2] 25)).heap.size=w.heap.size+1:=by show (w.heap.push _).size=_;simp
  have:=heap_alloc_last (w.alloc (.cells #[.string f.name, .int .i64 f.kind, .string f.data, .string f.target, .int .i64 f.mode, .int .i64 f.uid, .int .i64 f.gid, .int .i64 f.time, .int .i64 f.weight, .int .i64 f.hidden, .slice a l1 c1, .slice a2 l2 c2] 25)) (.cells #[.int .i64 0] 3)
  rw[e] at this
  show _=some (Obj.cells #[.int .i64 (wrap64 ((0:Nat):Int))] 3 (0,0))
  rw[show wrap64 ((0:Nat):Int)=0 from w64 (by omega) (by omega)]
  exact this
 have hb2:=hb1.alloc hb1.size (.cells #[.int .i64 0] 3)
 refine (HWK.out _ hb2 (by show _≤((w.heap.push _).push _).size;simp) hst0).mono ?_
 rintro e w1 ⟨rfl,hs1,hk1⟩
 have hc1:=cell_of_one hs1
 have hw:wrap64 ((0+ntCount n t:Nat):Int)=(ntCount n t:Int):=by rw[Nat.zero_add];exact w64 (by omega) (by omega)
 rw[hw] at hc1
 clear hst0 hs1 hw
 go_wp2
 go_ret
 exact ⟨rfl,hb2.trans (hk1.below (fun b hb=>by omega) hb2.size)⟩
end Go.Proofs.YtbeccmkegckjjaaGreatDoor
end
section
namespace Go.Proofs.YtbeccmkegckjjaaGreatDoor
open Go.RowKit
set_option maxRecDepth 1000000
set_option maxHeartbeats 1600000
def inB(x a b:Int):Bool:=decide (a≤x)&&decide (x≤b)
theorem okNums_in(f:NF):okNums f=(inB f.mode 0 4095&&(inB f.uid 0 65535&&(inB f.gid 0 65535&&(inB f.time 315532800 4102444799&&(inB f.weight (-1048576) 1048576&&inB f.hidden 0 15))))):=rfl
theorem p_rnums(f:NF)(ka a:Option Addr)(kl kc sl sc l:Nat)(w:World):
 Calls Tryz.prog 112 #[.agg (ruleCells f (.slice ka kl kc) (.slice a sl sc) l).toArray] w fun e w'=> ∃n:Int,e= .returned (.int .i64 n)∧(n=0↔okNums f=true)∧Below w.heap.size w w':=by
 have HI:=fun (x p q:Int) (W:World)=>p_in x p q W
 rw[okNums_in]
 have H1:=hQ (fun W:World=>HI f.mode 0 4095 W)
 have H2:=hQ (fun W:World=>HI f.uid 0 65535 W)
 have H3:=hQ (fun W:World=>HI f.gid 0 65535 W)
 have H4:=hQ (fun W:World=>HI f.time 315532800 4102444799 W)
 have H5:=hQ (fun W:World=>HI f.weight (-1048576) 1048576 W)
 have H6:=hQ (fun W:World=>HI f.hidden 0 15 W)
 clear HI
 change Hid (∀W,Calls _ _ _ W fun e w'=>e= .returned (.bool (inB f.mode 0 4095))∧w'=W) at H1
 change Hid (∀W,Calls _ _ _ W fun e w'=>e= .returned (.bool (inB f.uid 0 65535))∧w'=W) at H2
 change Hid (∀W,Calls _ _ _ W fun e w'=>e= .returned (.bool (inB f.gid 0 65535))∧w'=W) at H3
 change Hid (∀W,Calls _ _ _ W fun e w'=>e= .returned (.bool (inB f.time 315532800 4102444799))∧w'=W) at H4
 change Hid (∀W,Calls _ _ _ W fun e w'=>e= .returned (.bool (inB f.weight (-1048576) 1048576))∧w'=W) at H5
 change Hid (∀W,Calls _ _ _ W fun e w'=>e= .returned (.bool (inB f.hidden 0 15))∧w'=W) at H6
 generalize inB f.mode 0 4095=b1 at*
 generalize inB f.uid 0 65535=b2 at*
 generalize inB f.gid 0 65535=b3 at*
 generalize inB f.time 315532800 4102444799=b4 at*
 generalize inB f.weight (-1048576) 1048576=b5 at*
 generalize inB f.hidden 0 15=b6 at*
 have hb1:=below_alloc1 w (.cells (ruleCells f (.slice ka kl kc) (.slice a sl sc) l).toArray 212)
 unfold ruleCells at hb1 ⊢
 have hb2:=hb1.alloc hb1.size (.cells (nfCells f (.slice ka kl kc) (.slice a sl sc)).toArray 25)
 unfold nfCells at hb2
 go_enter Tryz.func112,Tryz.ntmps112
 go_wp2_with fail
 refine (H1.out _).mono ?_
 rintro e w5 ⟨rfl,rfl⟩
 cases b1
 ·go_wp2
  go_ret
  exact ⟨_,rfl,by simp,hb2⟩
 go_wp2_with fail
 refine (H2.out _).mono ?_
 rintro e w5 ⟨rfl,rfl⟩
 cases b2
 ·go_wp2
  go_ret
  exact ⟨_,rfl,by simp,hb2⟩
 go_wp2_with fail
 refine (H3.out _).mono ?_
 rintro e w5 ⟨rfl,rfl⟩
 cases b3
 ·go_wp2
  go_ret
  exact ⟨_,rfl,by simp,hb2⟩
 go_wp2_with fail
 refine (H4.out _).mono ?_
 rintro e w5 ⟨rfl,rfl⟩
 cases b4
 ·go_wp2
  go_ret
  exact ⟨_,rfl,by simp,hb2⟩
 go_wp2_with fail
 refine (H5.out _).mono ?_
 rintro e w5 ⟨rfl,rfl⟩
 cases b5
 ·go_wp2
  go_ret
  exact ⟨_,rfl,by simp,hb2⟩
 go_wp2_with fail
 refine (H6.out _).mono ?_
 rintro e w5 ⟨rfl,rfl⟩
 cases b6
 ·go_wp2
  go_ret
  exact ⟨_,rfl,by simp,hb2⟩
 ·go_wp2
  go_ret
  exact ⟨_,rfl,by simp,hb2⟩
end Go.Proofs.YtbeccmkegckjjaaGreatDoor
end
