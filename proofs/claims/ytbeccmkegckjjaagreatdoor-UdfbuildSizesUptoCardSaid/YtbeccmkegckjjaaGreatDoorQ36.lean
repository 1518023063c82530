/- Law 43, UdfbuildSizes: a part of the proof. -/
import Derived.Test.YtbeccmkegckjjaaGreatDoorQ31
import Derived.Test.YtbeccmkegckjjaaGreatDoorQ35
import Derived.Deep.RegionHeld3
import Derived.Maps.OwnSet
import Derived.Shelf.Abstract
section
namespace Go.Proofs.YtbeccmkegckjjaaGreatDoor
open Go.RowKit
open Go.Maps (Keyed IsMap)
set_option maxRecDepth 1000000
set_option maxHeartbeats 12800000
section
variable {P:Program} {ops:Array Oper} {Q:Exit→Act→World→Prop} {md:Region.Mode} {S:World→Prop}
def CallIf(P:Program)(ops:Array Oper)(S:World→Prop)(o:Oper)(v:Value)(a:Act):Prop:=
 Region.wanted o (yielded ops a.tmps)=true∧ ∃f args, ∀w,S w→(execOp a.eval o).run P w= .ok (.enter f args) w∧Calls P f args w fun e w'=>e= .returned v∧w'=w
theorem CallIf.step{i:Nat}{o:Oper}{v:Value}{a:Act}{w:World}{K:Act→World→Prop}(hi:ops[i]? =some o)(hy:CallIf P ops S o v a)(hS:S w)(h:K (a.put o.dst v) w):wpOp P ops Q i K a w:=by
 obtain ⟨hw,f,args,hr⟩:=hy
 obtain ⟨h1,h2⟩:=hr w hS
 unfold wpOp
 simp only[hi,hw,if_true]
 refine .inl ?_
 unfold Oper.wp
 rw[h1]
 show Calls P f args w _
 refine Calls.mono h2 fun e w' he=>?_
 obtain ⟨rfl,rfl⟩:=he
 exact h
def Shape(oj:Oper)(a a':Act):Prop:= ∃D u,a'=({a with defers:=D}:Act).put oj.dst u
theorem wpOp_shape{j:Nat}{oj:Oper}{a:Act}{w:World}{K:Act→World→Prop}(hj:ops[j]? =some oj)(h:wpOp P ops Q j K a w):wpOp P ops Q j (fun a' w'=>Shape oj a a'∧K a' w') a w:=by
 unfold wpOp at*
 simp only[hj] at*
 split
 ·rename_i hw
  simp only[hw,if_true] at h
  refine h.imp (fun h=>?_) id
  unfold Oper.wp at*
  generalize (execOp a.eval oj).run P w=r at*
  cases r with
  |ok n w'=>
   cases n <;> first
    |exact ⟨⟨a.defers,_,rfl⟩,h⟩
    |exact ⟨⟨_,_,rfl⟩,h⟩
    |(refine Calls.mono h fun e w'' he=>?_
      cases e with
      |returned u=>exact ⟨⟨a.defers,_,rfl⟩,he⟩
      |panicked c=>exact he
      |outgrown=>exact he)
    |exact Rows.mono h fun u w'' he=>⟨⟨a.defers,_,rfl⟩,he⟩
    |exact h
  |halt x w'=>cases x <;> exact h
 ·rename_i hw
  simp only[hw] at h
  exact ⟨⟨a.defers,_,rfl⟩,h⟩
theorem CallIf.shape{oi oj:Oper}{v:Value}{a a':Act}(hy:CallIf P ops S oi v a)(hsi: ∀cs b,oi.op≠ .select cs b)(hl: ∀d,oj.dst=some d→d ∉ oi.looksAt ops)(h:Shape oj a a'):CallIf P ops S oi v a':=by
 obtain ⟨D,u,rfl⟩:=h
 unfold CallIf at*
 rw[wanted_put oi _ oj.dst u hl,execOp_put oi hsi _ oj.dst u hl]
 exact hy
theorem wpAnyH_call1{i:Nat}{oi:Oper}{v:Value}(hi:ops[i]? =some oi)(hsel: ∀(j:Nat) (o:Oper) cs b,ops[j]? =some o→o.op≠ .select cs b)(hQ: ∀c a w,Q (.panic c) (a.put oi.dst v) w→Q (.panic c) a w):
 ∀(fuel:Nat) (L:Array Bool) (a:Act) (w:World),(∀j oj,ops[j]? =some oj→j≠i→L.getD j true=false→(∀e∈oj.after,Region.binds md e=true→e.on≠i)→oi.apart ops oj=true)→
  i∈Region.ready md ops L→CallIf P ops S oi v a→S w→wpAnyH P md ops Q S fuel (L.setIfInBounds i true) (a.put oi.dst v) w→wpAnyH P md ops Q S (fuel+1) L a w:=by
 intro fuel
 induction fuel with
 |zero=>
  intro L a w _ hr hy hS H
  refine ⟨fun h=>absurd hr (by rw[h];exact List.not_mem_nil),fun j hj=>?_⟩
  by_cases hji:j=i
  ·rw[hji];exact hy.step hi hS ⟨hS,H⟩
  ·exact absurd (ready_mono hj hji) (by rw[H.1];exact List.not_mem_nil)
 |succ fuel ih=>
  intro L a w hf hr hy hS H
  refine ⟨fun h=>absurd hr (by rw[h];exact List.not_mem_nil),fun j hj=>?_⟩
  by_cases hji:j=i
  ·rw[hji];exact hy.step hi hS ⟨hS,H⟩
  ·obtain ⟨hun,oj,hoj,hall⟩:=mem_ready.1 hj
   have hi0:=(mem_ready.1 hr).1
   have hnot: ∀e∈oj.after,Region.binds md e=true→e.on≠i:=fun e he hb heq=>by
    have h1:=hall e he hb
    rw[heq] at h1
    simp only[Array.getD_eq_getD_getElem?] at h1 hi0
    rcases hq:L[i]? with _|b
    ·rw[hq] at h1;simp at h1
    ·rw[hq] at h1 hi0;simp at h1 hi0;rw[h1] at hi0;cases hi0
   have hap:=hf j oj hoj hji hun hnot
   obtain ⟨-, -,h3⟩:=Oper.apart_spec hap
   have h1:=H.2 j (ready_mono hj hji)
   have h2:=wpOp_shape hoj (wpOp_putIf (S:=fun _=>False) hoj hap (fun cs b=>hsel i oi cs b hi) (fun cs b=>hsel j oj cs b hoj) hQ (.inl ⟨hy.1,fun _ h=>h.elim⟩) h1)
   refine wpOp_mono (fun a' w' h4=>?_) h2
   obtain ⟨hsh, -,hS',hw'⟩:=h4
   refine ⟨hS',ih (L.setIfInBounds j true) a' w' (fun k ok hk hki hunk hno=>hf k ok hk hki ?_ hno) (ready_mono hr (Ne.symm hji)) (hy.shape (fun cs b=>hsel i oi cs b hi) h3 hsh) hS' ?_⟩
   ·by_cases hjk:j=k
    ·rw[←hjk];exact hun
    ·rwa [getD_set_ne true hjk] at hunk
   ·rw[Array.setIfInBounds_comm _ _ hji];exact hw'
theorem wpAnyH_call{i:Nat}{oi:Oper}{v:Value}{fuel:Nat}{L:Array Bool}{a:Act}{w:World}(hi:ops[i]? =some oi)(hs:Region.noSelect ops=true)(hf:Region.free md ops L i=true)(hr:(Region.ready md ops L).contains i=true)
 (hQ: ∀c a w,Q (.panic c) (a.put oi.dst v) w→Q (.panic c) a w) (hy:CallIf P ops S oi v a) (hS:S w) (h:wpAnyH P md ops Q S fuel (L.setIfInBounds i true) (a.put oi.dst v) w):wpAnyH P md ops Q S (fuel+1) L a w:=
 wpAnyH_call1 hi (Region.noSelect_spec hs) hQ fuel L a w (Region.free_spec hi hf) (by simpa using hr) hy hS h
theorem AllReadyH.val{fuel i:Nat}{L:Array Bool}{a:Act}{w w':World}{o:Oper}{rs:List Nat}{v:Value}(ho:ops[i]? =some o)(hw:Region.wanted o (yielded ops a.tmps)=true)(hr:(execOp a.eval o).run P w= .ok (.value v) w')(hS:S w')
 (h:wpAnyH P md ops Q S fuel (L.setIfInBounds i true) (a.put o.dst v) w') (more:AllReadyH P md ops Q S fuel L a w rs):AllReadyH P md ops Q S fuel L a w (i::rs):=fun j hj=>by
 rcases List.mem_cons.1 hj with rfl|hj
 ·unfold wpOp
  simp only[ho,hw,if_true,Oper.wp,hr,Oper.upon]
  exact .inl ⟨hS,h⟩
 ·exact more j hj
theorem AllReadyH.skip{fuel i:Nat}{L:Array Bool}{a:Act}{w w':World}{o:Oper}{rs:List Nat}(ho:ops[i]? =some o)(hw:Region.wanted o (yielded ops a.tmps)=true)(hr:(execOp a.eval o).run P w= .ok .skip w')(hS:S w')
 (h:wpAnyH P md ops Q S fuel (L.setIfInBounds i true) (a.put o.dst undef) w') (more:AllReadyH P md ops Q S fuel L a w rs):AllReadyH P md ops Q S fuel L a w (i::rs):=fun j hj=>by
 rcases List.mem_cons.1 hj with rfl|hj
 ·unfold wpOp
  simp only[ho,hw,if_true,Oper.wp,hr,Oper.upon]
  exact .inl ⟨hS,h⟩
 ·exact more j hj
end
theorem mapLawI:Keyed Tryz.prog 3:=Maps.int_keyed Tryz.underlying3
def MapI(b n:Nat)(f:Int→Int)(w:World):Prop:= ∃D:DataW Unit,w.ownsMap Tryz.prog 3 (plainElem Tryz.prog 3) b n D∧ ∀k,(Lit.int .i64 k).wf=true→D.atKey (.int .i64 k) (.lit (.int .i64 0))= .lit (.int .i64 (f k))
def upI(f:Int→Int)(k v:Int):Int→Int:=fun x=>if x=k then v else f x
theorem MapI.new(w:World):MapI w.heap.size 0 (fun _=>0) (w.alloc (.map #[] 0)):=⟨.map [],World.ownsMap_made _ _ _ _,fun _ _=>rfl⟩
theorem MapI.put{b n:Nat}{f:Int→Int}{w:World}(h:MapI b n f w)(k v:Int)(hk:(Lit.int .i64 k).wf=true)(hv:(Lit.int .i64 v).wf=true)(hn:n<maxLen):
 ∃w',(Instr.mapUpdate 124 (.map (some b)) (.int .i64 k) (.int .i64 v)).run Tryz.prog w= .ok () w'∧MapI b (n+1) (upI f k v) w'∧w.grownBy w' (some b):=by
 obtain ⟨D,hD,hat⟩:=h
 obtain ⟨w',h1,h2,h3⟩:=hD.update mapLawI Tryz.underlying124 hn (Maps.keyOf_int_mk Tryz.underlying3 hk) (plainElem_int Tryz.underlying3 hv)
 refine ⟨w',h1,⟨_,h2,fun x hx=>?_⟩,h3⟩
 unfold upI
 by_cases hxk:x=k
 ·rw[hxk,Maps.atKey_put_same hD.isMap (show WideAt.IsKeyLit (.int .i64 k) from trivial),if_pos rfl]
 ·rw[Maps.atKey_put_other (by intro e;injection e with _ e;exact hxk e),if_neg hxk]
  exact hat x hx
theorem MapI.get{b n:Nat}{f:Int→Int}{w:World}(h:MapI b n f w)(k:Int)(hk:(Lit.int .i64 k).wf=true):(Instr.lookup 124 (.map (some b)) (.int .i64 k) false).run Tryz.prog w= .ok (.int .i64 (f k)) w:=by
 obtain ⟨D,hD,hat⟩:=h
 obtain ⟨c,h1,h2, -⟩:=hD.lookup_int mapLawI Tryz.underlying124 Tryz.underlying3 (Tryz.zeroValue3 w) (Maps.keyOf_int_mk Tryz.underlying3 hk)
 rw[hat k hk] at h2
 injection h2 with h2
 injection h2 with _ h2
 rw[h1,h2]
theorem p_vat1(w:World)(go:Nat)(ia:Option Addr)(m ic:Nat)(c1:w.cell? ⟨go,1,none⟩=some (.slice ia m ic))(hm:m≤100000):
 Calls Tryz.prog 47 #[.pointer (some ⟨go,0,none⟩)] w fun e w'=>e= .returned (.int .i64 (outside (156+4*m):Int))∧w'=w:=by
 have HO:=hQ (fun W:World=>p_outer (156+4*m) W (by omega))
 rw[show ((156+4*m:Nat):Int)=152+4*(1+(m:Int)) by omega] at HO
 have hmz:(m:Int)≤100000:=by omega
 clear hm
 generalize outside (156+4*m)=ov at*
 go_enter Tryz.func47,Tryz.ntmps47
 go_wp2_with fail
 refine (HO.out _).mono ?_
 rintro e w2 ⟨rfl,rfl⟩
 go_wp2
 go_ret
 exact ⟨rfl,rfl⟩
theorem p_region1(w:World)(go:Nat)(c:Nat)(c2:w.cell? ⟨go,2,none⟩=some (.int .i64 (c:Int)))(hc:c≤100000000):
 Calls Tryz.prog 48 #[.pointer (some ⟨go,0,none⟩)] w fun e w'=>e= .returned (.int .i64 (roundedU (1+c):Int))∧w'=w:=by
 have HO:=hQ (fun W:World=>p_rounded40 (1+c) W (by omega))
 rw[show ((1+c:Nat):Int)=1+(c:Int) by omega] at HO
 have hcz:(c:Int)≤100000000:=by omega
 clear hc
 generalize roundedU (1+c)=ov at*
 go_enter Tryz.func48,Tryz.ntmps48
 go_wp2_with fail
 refine (HO.out _).mono ?_
 rintro e w2 ⟨rfl,rfl⟩
 go_wp2
 go_ret
 exact ⟨rfl,rfl⟩
theorem wfI(k:Int)(h0:0≤k)(h1:k≤1000000000):(Lit.int .i64 k).wf=true:=by
 simp[Lit.wf,IntKind.min,IntKind.max,IntKind.bits,IntKind.signed]
 omega
theorem ins_step2{ops:Array Oper}{Q:Exit→Act→World→Prop}{md:Region.Mode}{fuel i b n go B:Nat}{L:Array Bool}{a:Act}{w W:World}{o:Oper}{rs:List Nat}{m x v:Operand}{f:Int→Int}{s1 s2:Value}(k u:Int)(ho:ops[i]? =some o)(hw:Region.wanted o (yielded ops a.tmps)=true)(hop:o.op= .insert 124 m x v)(hd:o.dst=none)
 (em:a.eval m= .map (some b)) (ex:a.eval x= .int .i64 k) (ev:a.eval v= .int .i64 u) (hk:(Lit.int .i64 k).wf=true) (hu:(Lit.int .i64 u).wf=true) (hn:n<maxLen) (hM:MapI b n f W) (hS:W.cell? ⟨go,1,none⟩=some s1∧W.cell? ⟨go,2,none⟩=some s2) (hgo:go≠b) (hB:RowKit.Below B w W) (hBb:B≤b) (hBw:B≤w.heap.size)
 (more:AllReadyH Tryz.prog md ops Q (fun W=>W.cell? ⟨go,1,none⟩=some s1∧W.cell? ⟨go,2,none⟩=some s2) fuel L a W rs)
 (h: ∀W',MapI b (n+1) (upI f k u) W'→(W'.cell? ⟨go,1,none⟩=some s1∧W'.cell? ⟨go,2,none⟩=some s2)→RowKit.Below B w W'→wpAnyH Tryz.prog md ops Q (fun W=>W.cell? ⟨go,1,none⟩=some s1∧W.cell? ⟨go,2,none⟩=some s2) fuel (L.setIfInBounds i true) a W'):AllReadyH Tryz.prog md ops Q (fun W=>W.cell? ⟨go,1,none⟩=some s1∧W.cell? ⟨go,2,none⟩=some s2) fuel L a W (i::rs):=by
 obtain ⟨W',h1,h2,h3⟩:=hM.put k u hk hu hn
 have hne:some go≠some b:=fun e=>hgo (by injection e)
 have hS':W'.cell? ⟨go,1,none⟩=some s1∧W'.cell? ⟨go,2,none⟩=some s2:=⟨h3.cell hS.1 hne,h3.cell hS.2 hne⟩
 refine AllReadyH.skip ho hw ?_ hS' ?_ more
 ·simp only[execOp,hop,em,ex,ev,Sem.run_bind,h1,Result.andThen_ok,Sem.run_pure]
 ·rw[hd]
  exact h W' h2 hS' (hB.grown h3 (Nat.le_trans hBw hB.size) (fun j hj=>by injection hj with hj;omega))
theorem p_osize(w:World)(go:Nat)(ia:Option Addr)(m ic c:Nat)(kind:Int)(c1:w.cell? ⟨go,1,none⟩=some (.slice ia m ic))(c2:w.cell? ⟨go,2,none⟩=some (.int .i64 (c:Int)))(hm:m≤100000)(hc:c≤100000000)(hk:0≤kind∧kind≤3):
 Calls Tryz.prog 16 #[.pointer (some ⟨go,0,none⟩), .int .i64 kind] w fun e w'=>e= .returned (.int .i64 (needK kind c m:Int))∧Below w.heap.size w w':=by
 have HV:=hQ (fun (W:World) (h:W.cell? ⟨go,1,none⟩=some (.slice ia m ic))=>p_vat1 W go ia m ic h hm)
 have HR:=hQ (fun (W:World) (h:W.cell? ⟨go,2,none⟩=some (.int .i64 (c:Int)))=>p_region1 W go c h hc)
 have hcz:(c:Int)≤100000000:=by omega
 have hoz:=outside_le (156+4*m)
 have hrz:=roundedU_le (1+c)
 have hoz':(outside (156+4*m):Int)≤1000000:=by omega
 have hrz':(roundedU (1+c):Int)≤200000000:=by omega
 have HN:=hQ (show (needK kind c m:Int)=if kind=1 then 1+(c:Int)+outside (156+4*m) else if kind=2 then 3+(c:Int) else if kind=3 then 4+2*(roundedU (1+c):Int) else 1+(c:Int) from by
  unfold needK
  split
  ·omega
  ·split
   ·omega
   ·split <;> omega)
 generalize (needK kind c m:Int)=rr at*
 generalize outside (156+4*m)=ov at*
 generalize roundedU (1+c)=rv at*
 clear hm hc hoz hrz
 have e47: ∀(args:Array Value) (w:World),(callFunc 47 args).run Tryz.prog w= .ok (.enter 47 args) w:=enters_of Tryz.func47 (by kernel_rfl) rfl
 have e48: ∀(args:Array Value) (w:World),(callFunc 48 args).run Tryz.prog w= .ok (.enter 48 args) w:=enters_of Tryz.func48 (by kernel_rfl) rfl
 have HK:=hQ hk
 clear hk
 go_enter Tryz.func16,Tryz.ntmps16
 go_upto_region 1 with (fail)
 refine wp_region_held_drew (S:=fun W=>W.cell? ⟨go,1,none⟩=some (.slice ia m ic)∧W.cell? ⟨go,2,none⟩=some (.int .i64 (c:Int))) (by kernel_rfl) ⟨c1,c2⟩ (fun hHeld=>?_)
 refine wpAnyH_take (i:=1) (oi:=_) (v:=?tv1) rfl (by kernel_rfl) (by kernel_rfl) (by kernel_rfl) (fun _ _ _ h=>h) (Or.inl ⟨by rfl,?ty1⟩) hHeld ?tr1
 case ty1=>(intro W hSw;simp only[List.getElem_toArray,List.getElem_cons_succ,List.getElem_cons_zero];(try dsimp only at hSw);go_simp);(try with_reducible rfl)
 simp only[List.getElem_toArray,List.getElem_cons_succ,List.getElem_cons_zero,Act.put,List.setIfInBounds_toArray,List.set_cons_zero,List.set_cons_succ]
 refine wpAnyH_take (i:=2) (oi:=_) (v:=?tv2) rfl (by kernel_rfl) (by kernel_rfl) (by kernel_rfl) (fun _ _ _ h=>h) (Or.inl ⟨by rfl,?ty2⟩) hHeld ?tr2
 case ty2=>(intro W hSw;simp only[List.getElem_toArray,List.getElem_cons_succ,List.getElem_cons_zero];(try dsimp only at hSw);go_simp);(try with_reducible rfl)
 simp only[List.getElem_toArray,List.getElem_cons_succ,List.getElem_cons_zero,Act.put,List.setIfInBounds_toArray,List.set_cons_zero,List.set_cons_succ]
 refine wpAnyH_take (i:=3) (oi:=_) (v:=?tv3) rfl (by kernel_rfl) (by kernel_rfl) (by kernel_rfl) (fun _ _ _ h=>h) (Or.inl ⟨by rfl,?ty3⟩) hHeld ?tr3
 case ty3=>(intro W hSw;simp only[List.getElem_toArray,List.getElem_cons_succ,List.getElem_cons_zero];(try dsimp only at hSw);go_simp);(try with_reducible rfl)
 simp only[List.getElem_toArray,List.getElem_cons_succ,List.getElem_cons_zero,Act.put,List.setIfInBounds_toArray,List.set_cons_zero,List.set_cons_succ]
 refine wpAnyH_take (i:=4) (oi:=_) (v:=?tv4) rfl (by kernel_rfl) (by kernel_rfl) (by kernel_rfl) (fun _ _ _ h=>h) (Or.inl ⟨by rfl,?ty4⟩) hHeld ?tr4
 case ty4=>(intro W hSw;simp only[List.getElem_toArray,List.getElem_cons_succ,List.getElem_cons_zero];(try dsimp only at hSw);go_simp);(try with_reducible rfl)
 simp only[List.getElem_toArray,List.getElem_cons_succ,List.getElem_cons_zero,Act.put,List.setIfInBounds_toArray,List.set_cons_zero,List.set_cons_succ]
 refine wpAnyH_take (i:=5) (oi:=_) (v:=?tv5) rfl (by kernel_rfl) (by kernel_rfl) (by kernel_rfl) (fun _ _ _ h=>h) (Or.inl ⟨by rfl,?ty5⟩) hHeld ?tr5
 case ty5=>(intro W hSw;simp only[List.getElem_toArray,List.getElem_cons_succ,List.getElem_cons_zero];(try dsimp only at hSw);go_simp);(try with_reducible rfl)
 simp only[List.getElem_toArray,List.getElem_cons_succ,List.getElem_cons_zero,Act.put,List.setIfInBounds_toArray,List.set_cons_zero,List.set_cons_succ]
 refine wpAnyH_take (i:=7) (oi:=_) (v:=?tv7) rfl (by kernel_rfl) (by kernel_rfl) (by kernel_rfl) (fun _ _ _ h=>h) (Or.inl ⟨by rfl,?ty7⟩) hHeld ?tr7
 case ty7=>(intro W hSw;simp only[List.getElem_toArray,List.getElem_cons_succ,List.getElem_cons_zero];(try dsimp only at hSw);go_simp);(try with_reducible rfl)
 simp only[List.getElem_toArray,List.getElem_cons_succ,List.getElem_cons_zero,Act.put,List.setIfInBounds_toArray,List.set_cons_zero,List.set_cons_succ]
 refine wpAnyH_take (i:=8) (oi:=_) (v:=?tv8) rfl (by kernel_rfl) (by kernel_rfl) (by kernel_rfl) (fun _ _ _ h=>h) (Or.inl ⟨by rfl,?ty8⟩) hHeld ?tr8
 case ty8=>(intro W hSw;simp only[List.getElem_toArray,List.getElem_cons_succ,List.getElem_cons_zero];(try dsimp only at hSw);go_simp);(try with_reducible rfl)
 simp only[List.getElem_toArray,List.getElem_cons_succ,List.getElem_cons_zero,Act.put,List.setIfInBounds_toArray,List.set_cons_zero,List.set_cons_succ]
 refine wpAnyH_take (i:=9) (oi:=_) (v:=?tv9) rfl (by kernel_rfl) (by kernel_rfl) (by kernel_rfl) (fun _ _ _ h=>h) (Or.inl ⟨by rfl,?ty9⟩) hHeld ?tr9
 case ty9=>(intro W hSw;simp only[List.getElem_toArray,List.getElem_cons_succ,List.getElem_cons_zero];(try dsimp only at hSw);go_simp);(try with_reducible rfl)
 simp only[List.getElem_toArray,List.getElem_cons_succ,List.getElem_cons_zero,Act.put,List.setIfInBounds_toArray,List.set_cons_zero,List.set_cons_succ]
 refine wpAnyH_take (i:=10) (oi:=_) (v:=?tv10) rfl (by kernel_rfl) (by kernel_rfl) (by kernel_rfl) (fun _ _ _ h=>h) (Or.inl ⟨by rfl,?ty10⟩) hHeld ?tr10
 case ty10=>(intro W hSw;simp only[List.getElem_toArray,List.getElem_cons_succ,List.getElem_cons_zero];(try dsimp only at hSw);go_simp);(try with_reducible rfl)
 simp only[List.getElem_toArray,List.getElem_cons_succ,List.getElem_cons_zero,Act.put,List.setIfInBounds_toArray,List.set_cons_zero,List.set_cons_succ]
 refine wpAnyH_take (i:=11) (oi:=_) (v:=?tv11) rfl (by kernel_rfl) (by kernel_rfl) (by kernel_rfl) (fun _ _ _ h=>h) (Or.inl ⟨by rfl,?ty11⟩) hHeld ?tr11
 case ty11=>(intro W hSw;simp only[List.getElem_toArray,List.getElem_cons_succ,List.getElem_cons_zero];(try dsimp only at hSw);go_simp);(try with_reducible rfl)
 simp only[List.getElem_toArray,List.getElem_cons_succ,List.getElem_cons_zero,Act.put,List.setIfInBounds_toArray,List.set_cons_zero,List.set_cons_succ]
 refine wpAnyH_take (i:=12) (oi:=_) (v:=?tv12) rfl (by kernel_rfl) (by kernel_rfl) (by kernel_rfl) (fun _ _ _ h=>h) (Or.inl ⟨by rfl,?ty12⟩) hHeld ?tr12
 case ty12=>(intro W hSw;simp only[List.getElem_toArray,List.getElem_cons_succ,List.getElem_cons_zero];(try dsimp only at hSw);go_simp);(try with_reducible rfl)
 simp only[List.getElem_toArray,List.getElem_cons_succ,List.getElem_cons_zero,Act.put,List.setIfInBounds_toArray,List.set_cons_zero,List.set_cons_succ]
 refine wpAnyH_call (i:=13) (oi:=_) (v:= .int .i64 (ov:Int)) rfl (by kernel_rfl) (by kernel_rfl) (by kernel_rfl) (fun _ _ _ h=>h) ⟨by rfl,47, #[.pointer (some ⟨go,0,none⟩)],fun W hS=>⟨?ty13,HV.out W hS.1⟩⟩ hHeld ?tr13
 case ty13=>simp[execOp,resolve,invoke,Deferred.ofValue,Act.eval,e47]
 simp only[List.getElem_toArray,List.getElem_cons_succ,List.getElem_cons_zero,Act.put,List.setIfInBounds_toArray,List.set_cons_zero,List.set_cons_succ]
 refine wpAnyH_take (i:=14) (oi:=_) (v:=?tv14) rfl (by kernel_rfl) (by kernel_rfl) (by kernel_rfl) (fun _ _ _ h=>h) (Or.inl ⟨by rfl,?ty14⟩) hHeld ?tr14
 case ty14=>(intro W hSw;simp only[List.getElem_toArray,List.getElem_cons_succ,List.getElem_cons_zero];(try dsimp only at hSw);go_simp);(try with_reducible rfl)
 simp only[List.getElem_toArray,List.getElem_cons_succ,List.getElem_cons_zero,Act.put,List.setIfInBounds_toArray,List.set_cons_zero,List.set_cons_succ]
 refine wpAnyH_take (i:=16) (oi:=_) (v:=?tv16) rfl (by kernel_rfl) (by kernel_rfl) (by kernel_rfl) (fun _ _ _ h=>h) (Or.inl ⟨by rfl,?ty16⟩) hHeld ?tr16
 case ty16=>(intro W hSw;simp only[List.getElem_toArray,List.getElem_cons_succ,List.getElem_cons_zero];(try dsimp only at hSw);go_simp);(try with_reducible rfl)
 simp only[List.getElem_toArray,List.getElem_cons_succ,List.getElem_cons_zero,Act.put,List.setIfInBounds_toArray,List.set_cons_zero,List.set_cons_succ]
 refine wpAnyH_take (i:=17) (oi:=_) (v:=?tv17) rfl (by kernel_rfl) (by kernel_rfl) (by kernel_rfl) (fun _ _ _ h=>h) (Or.inl ⟨by rfl,?ty17⟩) hHeld ?tr17
 case ty17=>(intro W hSw;simp only[List.getElem_toArray,List.getElem_cons_succ,List.getElem_cons_zero];(try dsimp only at hSw);go_simp);(try with_reducible rfl)
 simp only[List.getElem_toArray,List.getElem_cons_succ,List.getElem_cons_zero,Act.put,List.setIfInBounds_toArray,List.set_cons_zero,List.set_cons_succ]
 refine wpAnyH_take (i:=18) (oi:=_) (v:=?tv18) rfl (by kernel_rfl) (by kernel_rfl) (by kernel_rfl) (fun _ _ _ h=>h) (Or.inl ⟨by rfl,?ty18⟩) hHeld ?tr18
 case ty18=>(intro W hSw;simp only[List.getElem_toArray,List.getElem_cons_succ,List.getElem_cons_zero];(try dsimp only at hSw);go_simp);(try with_reducible rfl)
 simp only[List.getElem_toArray,List.getElem_cons_succ,List.getElem_cons_zero,Act.put,List.setIfInBounds_toArray,List.set_cons_zero,List.set_cons_succ]
 refine wpAnyH_take (i:=19) (oi:=_) (v:=?tv19) rfl (by kernel_rfl) (by kernel_rfl) (by kernel_rfl) (fun _ _ _ h=>h) (Or.inl ⟨by rfl,?ty19⟩) hHeld ?tr19
 case ty19=>(intro W hSw;simp only[List.getElem_toArray,List.getElem_cons_succ,List.getElem_cons_zero];(try dsimp only at hSw);go_simp);(try with_reducible rfl)
 simp only[List.getElem_toArray,List.getElem_cons_succ,List.getElem_cons_zero,Act.put,List.setIfInBounds_toArray,List.set_cons_zero,List.set_cons_succ]
 refine wpAnyH_take (i:=20) (oi:=_) (v:=?tv20) rfl (by kernel_rfl) (by kernel_rfl) (by kernel_rfl) (fun _ _ _ h=>h) (Or.inl ⟨by rfl,?ty20⟩) hHeld ?tr20
 case ty20=>(intro W hSw;simp only[List.getElem_toArray,List.getElem_cons_succ,List.getElem_cons_zero];(try dsimp only at hSw);go_simp);(try with_reducible rfl)
 simp only[List.getElem_toArray,List.getElem_cons_succ,List.getElem_cons_zero,Act.put,List.setIfInBounds_toArray,List.set_cons_zero,List.set_cons_succ]
 refine wpAnyH_take (i:=22) (oi:=_) (v:=?tv22) rfl (by kernel_rfl) (by kernel_rfl) (by kernel_rfl) (fun _ _ _ h=>h) (Or.inl ⟨by rfl,?ty22⟩) hHeld ?tr22
 case ty22=>(intro W hSw;simp only[List.getElem_toArray,List.getElem_cons_succ,List.getElem_cons_zero];(try dsimp only at hSw);go_simp);(try with_reducible rfl)
 simp only[List.getElem_toArray,List.getElem_cons_succ,List.getElem_cons_zero,Act.put,List.setIfInBounds_toArray,List.set_cons_zero,List.set_cons_succ]
 refine wpAnyH_call (i:=23) (oi:=_) (v:= .int .i64 (rv:Int)) rfl (by kernel_rfl) (by kernel_rfl) (by kernel_rfl) (fun _ _ _ h=>h) ⟨by rfl,48, #[.pointer (some ⟨go,0,none⟩)],fun W hS=>⟨?ty23,HR.out W hS.2⟩⟩ hHeld ?tr23
 case ty23=>simp[execOp,resolve,invoke,Deferred.ofValue,Act.eval,e48]
 simp only[List.getElem_toArray,List.getElem_cons_succ,List.getElem_cons_zero,Act.put,List.setIfInBounds_toArray,List.set_cons_zero,List.set_cons_succ]
 refine wpAnyH_take (i:=24) (oi:=_) (v:=?tv24) rfl (by kernel_rfl) (by kernel_rfl) (by kernel_rfl) (fun _ _ _ h=>h) (Or.inl ⟨by rfl,?ty24⟩) hHeld ?tr24
 case ty24=>(intro W hSw;simp only[List.getElem_toArray,List.getElem_cons_succ,List.getElem_cons_zero];(try dsimp only at hSw);go_simp);(try with_reducible rfl)
 simp only[List.getElem_toArray,List.getElem_cons_succ,List.getElem_cons_zero,Act.put,List.setIfInBounds_toArray,List.set_cons_zero,List.set_cons_succ]
 refine wpAnyH_take (i:=25) (oi:=_) (v:=?tv25) rfl (by kernel_rfl) (by kernel_rfl) (by kernel_rfl) (fun _ _ _ h=>h) (Or.inl ⟨by rfl,?ty25⟩) hHeld ?tr25
 case ty25=>(intro W hSw;simp only[List.getElem_toArray,List.getElem_cons_succ,List.getElem_cons_zero];(try dsimp only at hSw);go_simp);(try with_reducible rfl)
 simp only[List.getElem_toArray,List.getElem_cons_succ,List.getElem_cons_zero,Act.put,List.setIfInBounds_toArray,List.set_cons_zero,List.set_cons_succ]
 refine wpAnyH_take (i:=28) (oi:=_) (v:=?tv28) rfl (by kernel_rfl) (by kernel_rfl) (by kernel_rfl) (fun _ _ _ h=>h) (Or.inl ⟨by rfl,?ty28⟩) hHeld ?tr28
 case ty28=>(intro W hSw;simp only[List.getElem_toArray,List.getElem_cons_succ,List.getElem_cons_zero];(try dsimp only at hSw);go_simp);(try with_reducible rfl)
 simp only[List.getElem_toArray,List.getElem_cons_succ,List.getElem_cons_zero,Act.put,List.setIfInBounds_toArray,List.set_cons_zero,List.set_cons_succ]
 have w0:IntKind.i64.wrap (1+(c:Int))=1+c:=by rw[IntKind.wrap_i64];omega
 have w1:IntKind.i64.wrap (1+(c:Int)+ov)=1+c+ov:=by rw[IntKind.wrap_i64];omega
 have w2:IntKind.i64.wrap (3+(c:Int))=3+c:=by rw[IntKind.wrap_i64];omega
 have w3:IntKind.i64.wrap (2*(rv:Int))=2*rv:=by rw[IntKind.wrap_i64];omega
 have w4:IntKind.i64.wrap (4+2*(rv:Int))=4+2*rv:=by rw[IntKind.wrap_i64];omega
 simp only[w0,w1,w2,w3,w4]
 clear w0 w1 w2 w3 w4
 have hgo:go<w.heap.size:=World.block_lt_of_cell? _ _ c1
 have hbA:=(below_drew (Below.refl w.heap.size w)).trans ((below_alloc1 w.drew (.map #[] 0)).mono (Nat.le_refl _))
 have hSA:(w.drew.alloc (.map #[] 0)).cell? ⟨go,1,none⟩=some (.slice ia m ic)∧(w.drew.alloc (.map #[] 0)).cell? ⟨go,2,none⟩=some (.int .i64 (c:Int)):=⟨(hbA.cell hgo).trans c1,(hbA.cell hgo).trans c2⟩
 have hMA:MapI w.heap.size 0 (fun _=>0) (w.drew.alloc (.map #[] 0)):=MapI.new w.drew
 refine wpAnyH_ready (rs:=[0]) (by kernel_rfl) (by simp) ?_
 refine AllReadyH.val (v:= .map (some w.heap.size)) (w':=w.drew.alloc (.map #[] 0)) rfl (by rfl) (by simp[execOp,run_makeMap]) hSA ?_ AllReadyH.nil
 simp only[List.getElem_toArray,List.getElem_cons_zero,Act.put,List.setIfInBounds_toArray,List.set_cons_zero,List.set_cons_succ]
 generalize w.drew.alloc (.map #[] 0)=wA at*
 have HGO:=hQ (show go≠w.heap.size by omega)
 have HC:=hQ (show kind=0∨kind=1∨kind=2∨kind=3 by have:=HK.out;omega)
 have HKW:=hQ (wfI kind HK.out.1 (by have:=HK.out;omega))
 have W0:=hQ (wfI (1+(c:Int)) (by omega) (by omega))
 have W1:=hQ (wfI (1+(c:Int)+ov) (by omega) (by omega))
 have W2:=hQ (wfI (3+(c:Int)) (by omega) (by omega))
 have W3:=hQ (wfI (4+2*(rv:Int)) (by omega) (by omega))
 clear c1 c2 HV HR e47 e48 hHeld
 have MM:=hMA
 have SS:=hSA
 have BB:=hbA
 refine wpAnyH_ready (rs:=[6,15,21,26]) (by kernel_rfl) (by simp) ?_
 iterate 4
  first
  |refine ins_step2 0 (1+(c:Int)) rfl (by rfl) rfl rfl rfl rfl rfl (wfI 0 (by decide) (by decide)) W0.out (by decide) MM SS HGO.out BB (Nat.le_refl _) (Nat.le_refl _) ?_ (fun _ MM SS BB=>?_)
  |refine ins_step2 1 (1+(c:Int)+ov) rfl (by rfl) rfl rfl rfl rfl rfl (wfI 1 (by decide) (by decide)) W1.out (by decide) MM SS HGO.out BB (Nat.le_refl _) (Nat.le_refl _) ?_ (fun _ MM SS BB=>?_)
  |refine ins_step2 2 (3+(c:Int)) rfl (by rfl) rfl rfl rfl rfl rfl (wfI 2 (by decide) (by decide)) W2.out (by decide) MM SS HGO.out BB (Nat.le_refl _) (Nat.le_refl _) ?_ (fun _ MM SS BB=>?_)
  |refine ins_step2 3 (4+2*(rv:Int)) rfl (by rfl) rfl rfl rfl rfl rfl (wfI 3 (by decide) (by decide)) W3.out (by decide) MM SS HGO.out BB (Nat.le_refl _) (Nat.le_refl _) ?_ (fun _ MM SS BB=>?_)
 exact AllReadyH.nil
 refine wpAnyH_ready (rs:=[6,15,21]) (by kernel_rfl) (by simp) ?_;rotate_left
 refine wpAnyH_ready (rs:=[6,15,26]) (by kernel_rfl) (by simp) ?_;rotate_left
 refine wpAnyH_ready (rs:=[6,21,26]) (by kernel_rfl) (by simp) ?_;rotate_left
 refine wpAnyH_ready (rs:=[15,21,26]) (by kernel_rfl) (by simp) ?_;rotate_left
 all_goals
  iterate 3
   first
   |refine ins_step2 0 (1+(c:Int)) rfl (by rfl) rfl rfl rfl rfl rfl (wfI 0 (by decide) (by decide)) W0.out (by decide) MM SS HGO.out BB (Nat.le_refl _) (Nat.le_refl _) ?_ (fun _ MM SS BB=>?_)
   |refine ins_step2 1 (1+(c:Int)+ov) rfl (by rfl) rfl rfl rfl rfl rfl (wfI 1 (by decide) (by decide)) W1.out (by decide) MM SS HGO.out BB (Nat.le_refl _) (Nat.le_refl _) ?_ (fun _ MM SS BB=>?_)
   |refine ins_step2 2 (3+(c:Int)) rfl (by rfl) rfl rfl rfl rfl rfl (wfI 2 (by decide) (by decide)) W2.out (by decide) MM SS HGO.out BB (Nat.le_refl _) (Nat.le_refl _) ?_ (fun _ MM SS BB=>?_)
   |refine ins_step2 3 (4+2*(rv:Int)) rfl (by rfl) rfl rfl rfl rfl rfl (wfI 3 (by decide) (by decide)) W3.out (by decide) MM SS HGO.out BB (Nat.le_refl _) (Nat.le_refl _) ?_ (fun _ MM SS BB=>?_)
  exact AllReadyH.nil
 refine wpAnyH_ready (rs:=[6,15]) (by kernel_rfl) (by simp) ?_;rotate_left
 refine wpAnyH_ready (rs:=[6,21]) (by kernel_rfl) (by simp) ?_;rotate_left
 refine wpAnyH_ready (rs:=[15,21]) (by kernel_rfl) (by simp) ?_;rotate_left
 refine wpAnyH_ready (rs:=[6,15]) (by kernel_rfl) (by simp) ?_;rotate_left
 refine wpAnyH_ready (rs:=[6,26]) (by kernel_rfl) (by simp) ?_;rotate_left
 refine wpAnyH_ready (rs:=[15,26]) (by kernel_rfl) (by simp) ?_;rotate_left
 refine wpAnyH_ready (rs:=[6,21]) (by kernel_rfl) (by simp) ?_;rotate_left
 refine wpAnyH_ready (rs:=[6,26]) (by kernel_rfl) (by simp) ?_;rotate_left
 refine wpAnyH_ready (rs:=[21,26]) (by kernel_rfl) (by simp) ?_;rotate_left
 refine wpAnyH_ready (rs:=[15,21]) (by kernel_rfl) (by simp) ?_;rotate_left
 refine wpAnyH_ready (rs:=[15,26]) (by kernel_rfl) (by simp) ?_;rotate_left
 refine wpAnyH_ready (rs:=[21,26]) (by kernel_rfl) (by simp) ?_;rotate_left
 all_goals
  iterate 2
   first
   |refine ins_step2 0 (1+(c:Int)) rfl (by rfl) rfl rfl rfl rfl rfl (wfI 0 (by decide) (by decide)) W0.out (by decide) MM SS HGO.out BB (Nat.le_refl _) (Nat.le_refl _) ?_ (fun _ MM SS BB=>?_)
   |refine ins_step2 1 (1+(c:Int)+ov) rfl (by rfl) rfl rfl rfl rfl rfl (wfI 1 (by decide) (by decide)) W1.out (by decide) MM SS HGO.out BB (Nat.le_refl _) (Nat.le_refl _) ?_ (fun _ MM SS BB=>?_)
   |refine ins_step2 2 (3+(c:Int)) rfl (by rfl) rfl rfl rfl rfl rfl (wfI 2 (by decide) (by decide)) W2.out (by decide) MM SS HGO.out BB (Nat.le_refl _) (Nat.le_refl _) ?_ (fun _ MM SS BB=>?_)
   |refine ins_step2 3 (4+2*(rv:Int)) rfl (by rfl) rfl rfl rfl rfl rfl (wfI 3 (by decide) (by decide)) W3.out (by decide) MM SS HGO.out BB (Nat.le_refl _) (Nat.le_refl _) ?_ (fun _ MM SS BB=>?_)
  exact AllReadyH.nil
 refine wpAnyH_ready (rs:=[6]) (by kernel_rfl) (by simp) ?_;rotate_left
 refine wpAnyH_ready (rs:=[15]) (by kernel_rfl) (by simp) ?_;rotate_left
 refine wpAnyH_ready (rs:=[6]) (by kernel_rfl) (by simp) ?_;rotate_left
 refine wpAnyH_ready (rs:=[21]) (by kernel_rfl) (by simp) ?_;rotate_left
 refine wpAnyH_ready (rs:=[15]) (by kernel_rfl) (by simp) ?_;rotate_left
 refine wpAnyH_ready (rs:=[21]) (by kernel_rfl) (by simp) ?_;rotate_left
 refine wpAnyH_ready (rs:=[6]) (by kernel_rfl) (by simp) ?_;rotate_left
 refine wpAnyH_ready (rs:=[15]) (by kernel_rfl) (by simp) ?_;rotate_left
 refine wpAnyH_ready (rs:=[6]) (by kernel_rfl) (by simp) ?_;rotate_left
 refine wpAnyH_ready (rs:=[26]) (by kernel_rfl) (by simp) ?_;rotate_left
 refine wpAnyH_ready (rs:=[15]) (by kernel_rfl) (by simp) ?_;rotate_left
 refine wpAnyH_ready (rs:=[26]) (by kernel_rfl) (by simp) ?_;rotate_left
 refine wpAnyH_ready (rs:=[6]) (by kernel_rfl) (by simp) ?_;rotate_left
 refine wpAnyH_ready (rs:=[21]) (by kernel_rfl) (by simp) ?_;rotate_left
 refine wpAnyH_ready (rs:=[6]) (by kernel_rfl) (by simp) ?_;rotate_left
 refine wpAnyH_ready (rs:=[26]) (by kernel_rfl) (by simp) ?_;rotate_left
 refine wpAnyH_ready (rs:=[21]) (by kernel_rfl) (by simp) ?_;rotate_left
 refine wpAnyH_ready (rs:=[26]) (by kernel_rfl) (by simp) ?_;rotate_left
 refine wpAnyH_ready (rs:=[15]) (by kernel_rfl) (by simp) ?_;rotate_left
 refine wpAnyH_ready (rs:=[21]) (by kernel_rfl) (by simp) ?_;rotate_left
 refine wpAnyH_ready (rs:=[15]) (by kernel_rfl) (by simp) ?_;rotate_left
 refine wpAnyH_ready (rs:=[26]) (by kernel_rfl) (by simp) ?_;rotate_left
 refine wpAnyH_ready (rs:=[21]) (by kernel_rfl) (by simp) ?_;rotate_left
 refine wpAnyH_ready (rs:=[26]) (by kernel_rfl) (by simp) ?_;rotate_left
 all_goals
  iterate 1
   first
   |refine ins_step2 0 (1+(c:Int)) rfl (by rfl) rfl rfl rfl rfl rfl (wfI 0 (by decide) (by decide)) W0.out (by decide) MM SS HGO.out BB (Nat.le_refl _) (Nat.le_refl _) ?_ (fun _ MM SS BB=>?_)
   |refine ins_step2 1 (1+(c:Int)+ov) rfl (by rfl) rfl rfl rfl rfl rfl (wfI 1 (by decide) (by decide)) W1.out (by decide) MM SS HGO.out BB (Nat.le_refl _) (Nat.le_refl _) ?_ (fun _ MM SS BB=>?_)
   |refine ins_step2 2 (3+(c:Int)) rfl (by rfl) rfl rfl rfl rfl rfl (wfI 2 (by decide) (by decide)) W2.out (by decide) MM SS HGO.out BB (Nat.le_refl _) (Nat.le_refl _) ?_ (fun _ MM SS BB=>?_)
   |refine ins_step2 3 (4+2*(rv:Int)) rfl (by rfl) rfl rfl rfl rfl rfl (wfI 3 (by decide) (by decide)) W3.out (by decide) MM SS HGO.out BB (Nat.le_refl _) (Nat.le_refl _) ?_ (fun _ MM SS BB=>?_)
  exact AllReadyH.nil
 all_goals
  have hg:=MM.get kind HKW.out
  refine wpAnyH_ready (rs:=[27]) (by kernel_rfl) (by simp) ?_
  refine AllReadyH.val (v:= .map (some w.heap.size)) (w':=_) rfl (by rfl) (by simp only[List.getElem_toArray,List.getElem_cons_succ,List.getElem_cons_zero];simp[execOp,Act.eval]) SS ?_ AllReadyH.nil
  simp only[List.getElem_toArray,List.getElem_cons_succ,List.getElem_cons_zero,Act.put,List.setIfInBounds_toArray,List.set_cons_zero,List.set_cons_succ]
  refine wpAnyH_ready (rs:=[29]) (by kernel_rfl) (by simp) ?_
  refine AllReadyH.val (v:=_) (w':=_) rfl (by rfl) (by simp only[List.getElem_toArray,List.getElem_cons_succ,List.getElem_cons_zero];simp[execOp,Act.eval,hg];exact rfl) SS ?_ AllReadyH.nil
  simp only[List.getElem_toArray,List.getElem_cons_succ,List.getElem_cons_zero,Act.put,List.setIfInBounds_toArray,List.set_cons_zero,List.set_cons_succ]
  refine wpAnyH_ready (rs:=[30]) (by kernel_rfl) (by simp) ?_
  refine AllReadyH.val (v:=_) (w':=_) rfl (by rfl) (by simp only[List.getElem_toArray,List.getElem_cons_succ,List.getElem_cons_zero];simp[execOp,Act.eval];exact rfl) SS ?_ AllReadyH.nil
  simp only[List.getElem_toArray,List.getElem_cons_succ,List.getElem_cons_zero,Act.put,List.setIfInBounds_toArray,List.set_cons_zero,List.set_cons_succ]
  refine wpAnyH_done (by kernel_rfl) ?_ _
  have HF:=hQ BB
  go_wp2
  go_ret
  exact ⟨ret_intB (by rw[HN.out];rcases HC.out with h|h|h|h <;> subst h <;> simp[upI]),HF.out⟩
end Go.Proofs.YtbeccmkegckjjaaGreatDoor
end
