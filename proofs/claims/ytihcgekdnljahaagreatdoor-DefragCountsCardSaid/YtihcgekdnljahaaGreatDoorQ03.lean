/- Law 54, DefragCounts: a part of the proof. -/
import Derived.Test.YtihcgekdnljahaaGreatDoorQ02
import Derived.Below
import Derived.Lib.Bytealg
import Derived.Lib.Repeat
import Derived.Laws.Externs
section
namespace Go.Ev
theorem intsBeq_eq: ∀(l r:List Int),intsBeq l r=true→l=r
 |[],[],_=>rfl
 |[],_::_,h=>by cases h
 |_::_,[],h=>by cases h
 |a::l,b::r,h=>by
  obtain ⟨h1,h2⟩:=chk_iff.1 (show chk (ieq a b) (intsBeq l r)=true from h)
  rw[ieq_eq] at h1
  rw[of_decide_eq_true h1,intsBeq_eq l r h2]
mutual
theorem avBeq_eq: ∀(u v:AV),avBeq u v=true→u=v
 | .bool a,v,h=>by
   cases v <;> simp[avBeq] at h
   rename_i b;cases a <;> cases b <;> simp_all[bc,bnot]
 | .int j a,v,h=>by
   cases v <;> simp[avBeq] at h
   obtain ⟨h1,h2⟩:=chk_iff.1 h
   obtain rfl:=sameK_iff.1 h1
   rw[ieq_eq] at h2
   rw[of_decide_eq_true h2]
 | .str l n,v,h=>by
   cases v <;> simp[avBeq] at h
   obtain ⟨h1,h2⟩:=chk_iff.1 h
   rw[beq_iff.1 h1,beq_iff.1 h2]
 | .nilp,v,h=>by cases v <;> simp[avBeq] at h;rfl
 | .ptr a b,v,h=>by
   cases v <;> simp[avBeq] at h
   obtain ⟨h1,h2⟩:=chk_iff.1 h
   rw[beq_iff.1 h1,beq_iff.1 h2]
 | .nils,v,h=>by cases v <;> simp[avBeq] at h;rfl
 | .sl a b c d,v,h=>by
   cases v <;> simp[avBeq] at h
   obtain ⟨h1,h⟩:=chk_iff.1 h
   obtain ⟨h2,h⟩:=chk_iff.1 h
   obtain ⟨h3,h4⟩:=chk_iff.1 h
   rw[beq_iff.1 h1,beq_iff.1 h2,beq_iff.1 h3,beq_iff.1 h4]
 | .su a b c d,v,h=>by
   cases v <;> simp[avBeq] at h
   obtain ⟨h1,h⟩:=chk_iff.1 h
   obtain ⟨h2,h⟩:=chk_iff.1 h
   obtain ⟨h3,h4⟩:=chk_iff.1 h
   rw[beq_iff.1 h1,beq_iff.1 h2,beq_iff.1 h3,beq_iff.1 h4]
 | .se a b c d,v,h=>by
   cases v <;> simp[avBeq] at h
   obtain ⟨h1,h⟩:=chk_iff.1 h
   obtain ⟨h2,h⟩:=chk_iff.1 h
   obtain ⟨h3,h4⟩:=chk_iff.1 h
   rw[beq_iff.1 h1,beq_iff.1 h2,beq_iff.1 h3,beq_iff.1 h4]
 | .opq a l,v,h=>by
   cases v <;> simp[avBeq] at h
   obtain ⟨h1,h2⟩:=chk_iff.1 h
   rw[beq_iff.1 h1,intsBeq_eq _ _ h2]
 | .nilm,v,h=>by cases v <;> simp[avBeq] at h;rfl
 | .mp a,v,h=>by
   cases v <;> simp[avBeq] at h
   rw[h]
 | .fn f a c,v,h=>by
   cases v with
   |fn g b d=>
    cases f with
    |func f=>cases g with
     |func g=>
      simp only[avBeq] at h
      obtain ⟨h1,h⟩:=chk_iff.1 h
      obtain ⟨h2,h3⟩:=chk_iff.1 h
      rw[beq_iff.1 h1,avBeqs_eq a b h2,avBeqs_eq c d h3]
     |_=>simp[avBeq] at h
    |_=>simp[avBeq] at h
   |_=>cases f <;> simp[avBeq] at h
 | .nilf,v,h=>by cases v <;> simp[avBeq] at h;rfl
 | .ifc t u,v,h=>by
   cases v with
   |ifc t' u'=>
    simp only[avBeq] at h
    obtain ⟨h1,h2⟩:=chk_iff.1 h
    rw[beq_iff.1 h1,avBeq_eq u u' h2]
   |_=>simp[avBeq] at h
 | .nili,v,h=>by cases v <;> simp[avBeq] at h;rfl
 | .agg a,v,h=>by
   cases v with
   |agg b=>simp only[avBeq] at h;rw[avBeqs_eq a b h]
   |_=>simp[avBeq] at h
 | .tup a,v,h=>by
   cases v with
   |tup b=>simp only[avBeq] at h;rw[avBeqs_eq a b h]
   |_=>simp[avBeq] at h
theorem avBeqs_eq: ∀(u v:List AV),avBeqs u v=true→u=v
 |[],v,h=>by cases v <;> simp[avBeqs] at h;rfl
 |a::l,v,h=>by
  cases v with
  |nil=>simp[avBeqs] at h
  |cons b r=>
   simp only[avBeqs] at h
   obtain ⟨h1,h2⟩:=chk_iff.1 h
   rw[avBeq_eq a b h1,avBeqs_eq l r h2]
end
section
variable {P:Program} {X:Nat→Option Call} {F:Fs}
abbrev Wd:=Nat→Option AV
def updW(W:Wd)(d:Option Tmp)(v:AV):Wd:=fun t=>if d=some t then some v else W t
def OdW(σ:Sg)(W:Wd)(o:Oper)(a:Act):Prop:= ∀t,Operand.tmp t∈o.op.operands→ ∀v,W t=some v→conc σ v=some (a.tmps.getD t undef)
def PSpecW(P:Program)(o:Oper)(W:Wd)(v:AV):Prop:=
 (∀c,o.op≠ .defer c)∧ ∀(σ:Sg) (a:Act),OdW σ W o a→ ∃x,conc σ v=some x∧ ∀w,(execOp a.eval o).run P w= .ok (.value x) w
def RSpecW(P:Program)(o:Oper)(W:Wd)(H:Hp)(bs:Option Nat)(v:AV):Prop:=
 (∀c,o.op≠ .defer c)∧ ∀(σ:Sg) (a:Act) (w:World),OdW σ W o a→(∀b,bs=some b→Sees σ H w b)→ ∃x,conc σ v=some x∧(execOp a.eval o).run P w= .ok (.value x) w
def MSpecW(P:Program)(o:Oper)(W:Wd)(ob:AO)(v:Nat→AV):Prop:=
 (∀c,o.op≠ .defer c)∧ ∀(σ:Sg) (a:Act) (w:World),OdW σ W o a→ ∃x w' e,(execOp a.eval o).run P w= .ok (.value x) w'∧Made σ w w' ob e∧ ∀(τ:Sg) (b:Nat),τ b=some e→conc τ (v b)=some x
def OpSpecW(P:Program)(o:Oper)(W:Wd)(H:Hp)(v:AV)(H':Hp):Prop:=
 Stays H H'∧ ∀(r:Option Nat) (pr:Nat→Prop) (w0:World) (σ:Sg) (a:Act) (w:World),OdW σ W o a→Sim pr w0 σ H w→
  OpRun P r o a w fun x w'=> ∃τ,Grows σ H τ H'∧conc τ v=some x∧Sim pr w0 τ H' w'
noncomputable def slotW(live:Nat)(g:Rg)(R:Fr):Wd:=fun t=>(rgSlot live g t).map (evd R)
theorem OdW.odR{live:Nat}{g:Rg}{R:Fr}{σ:Sg}{o:Oper}{a:Act}(h:OdW σ (slotW live g R) o a):OdR σ (rgRs live g) R o a:=fun x hx d hd=>by
 cases x with
 |tmp t=>
  have:rgSlot live g t=some d:=hd
  exact h t hx _ (by simp[slotW,this])
 |const u=>obtain ⟨v,rfl,hv⟩:=constOd_some (x:= .const u) hd;exact hv σ a
 |global u=>obtain ⟨v,rfl,hv⟩:=constOd_some (x:= .global u) hd;exact hv σ a
 |func u=>obtain ⟨v,rfl,hv⟩:=constOd_some (x:= .func u) hd;exact hv σ a
section conv
variable {live:Nat} {g:Rg} {R:Fr} {o:Oper}
theorem PSpec.w{v:AV}(h:PSpec P (rgRs live g) o R v):PSpecW P o (slotW live g R) v:=⟨h.1,fun σ a ho=>h.2 σ a ho.odR⟩
theorem RSpec.w{H:Hp}{bs:Option Nat}{v:AV}(h:RSpec P (rgRs live g) o R H bs v):RSpecW P o (slotW live g R) H bs v:=⟨h.1,fun σ a w ho=>h.2 σ a w ho.odR⟩
theorem MSpec.w{ob:AO}{v:Nat→AV}(h:MSpec P (rgRs live g) o R ob v):MSpecW P o (slotW live g R) ob v:=⟨h.1,fun σ a w ho=>h.2 σ a w ho.odR⟩
theorem OpSpec.w{H H':Hp}{v:AV}(h:OpSpec P (rgRs live g) o R H v H'):OpSpecW P o (slotW live g R) H v H':=⟨h.1,fun r pr w0 σ a w ho=>h.2 r pr w0 σ a w ho.odR⟩
theorem slotW_op(hg:RgOk g)(v:AV):slotW live (rgOp g o) (pushE R v)=updW (slotW live g R) o.dst v:=funext fun t=>by
 simp only[slotW,updW,rgSlot]
 simp only[rgOp]
 rw[whFind_put]
 by_cases h:o.dst=some t
 ·rw[if_pos h,if_pos h]
  simp only[Option.map_some]
  rw[show Nat.add g.n 1=g.n+1 from rfl,evd_own]
 ·rw[if_neg h,if_neg h]
  cases hw:whFind t g.ws with
  |some w=>
   simp only[Option.map_some]
   rw[show Nat.add g.n 1=g.n+1 from rfl,evd_push (hg t w hw)]
  |none=>
   simp only
   rw[bc_eq]
   split <;> rfl
theorem slotW_move(w:Wh):slotW live (rgMove g o w) R=updW (slotW live g R) o.dst (evd R (whOd g.n w)):=funext fun t=>by
 simp only[slotW,updW,rgSlot]
 simp only[rgMove]
 rw[whFind_put]
 by_cases h:o.dst=some t
 ·rw[if_pos h,if_pos h];rfl
 ·rw[if_neg h,if_neg h]
end conv
def StoreSpecW(P:Program)(o:Oper)(W:Wd)(b:Nat)(ob ob':AO):Prop:=
 (∀c,o.op≠ .defer c)∧(∀(σ:Sg) (a:Act),OdW σ W o a→ ∃e,σ b=some e)∧
   ∀(σ:Sg) (a:Act) (w:World) (e:En),OdW σ W o a→σ b=some e→BR σ w e ob→ ∃w',(execOp a.eval o).run P w= .ok .skip w'∧But e.blk w w'∧(∀l c,w.heap[e.blk]? ≠some (.map l c))∧BR σ w' e ob'
structure FillSpecW (P:Program) (o:Oper) (W:Wd) (b:Nat) (d:KEq) (key x:AV):Prop where
 defer: ∀c,o.op≠ .defer c
 form: ∃t m k v,o.op= .insert t (.tmp m) k v∧W m=some (.mp b)∧(∃kt et,tund P t=some (.map kt et)∧keyED P kt=some d)∧
  (∀(ρ:Sg) (a:Act),(∀t u,Operand.tmp t=k∨Operand.tmp t=v→W t=some u→conc ρ u=some (a.tmps.getD t undef))→conc ρ key=some (a.eval k)∧conc ρ x=some (a.eval v))∧
  ∀(ρ:Sg) (a:Act) (w:World) (blk:Nat) (es:List (AV × AV)) (l:Array MapEntry) (cl:Nat),a.tmps.getD m undef= .map (some blk)→conc ρ key=some (a.eval k)→conc ρ x=some (a.eval v)→
   w.heap[blk]? =some (.map l cl)→MapU ρ es l.toList cl→(∀e∈es,d key e.1=some false)→
   ∃w' l' cl',(execOp a.eval o).run P w= .ok .skip w'∧But blk w w'∧w'.heap[blk]? =some (.map l' cl')∧MapU ρ (es++[(key,x)]) l'.toList cl'
theorem MapU.push{σ:Sg}{es:List (AV × AV)}{l:List MapEntry}{cl:Nat}(h:MapU σ es l cl){key v:AV}{K V:Value}(hK:conc σ key=some K)(hV:conc σ v=some V)(hn: ∀e∈l,e.key≠K):
 MapU σ (es++[(key,v)]) (l++[⟨K,V,cl⟩]) (cl+1):=by
 obtain ⟨l',p1,p2⟩:=h.perm
 refine ⟨⟨l'++[⟨K,V,cl⟩],p1.append_right _,p2.append ⟨⟨hK,hV⟩,trivial⟩⟩,?_,fun e he=>?_,?_,by simp[h.clk]⟩
 ·rw[List.map_append,List.nodup_append]
  refine ⟨h.keys,by simp,fun a ha b hb=>?_⟩
  obtain ⟨e,e1,rfl⟩:=List.mem_map.1 ha
  simp at hb;subst hb
  exact hn e e1
 ·rcases List.mem_append.1 he with he|he
  ·have:=h.born e he;omega
  ·simp at he;subst he;simp
 ·rw[List.map_append,List.nodup_append]
  refine ⟨h.borns,by simp,fun a ha b hb=>?_⟩
  obtain ⟨e,e1,rfl⟩:=List.mem_map.1 ha
  simp at hb;subst hb
  have:=h.born e e1;omega
theorem store_w{live:Nat}{g:Rg}{R:Fr}{o:Oper}{t:TypeId}{x y:Operand}{d d':Od}{n:Nat}(ho:o.op= .store t x y)(hn:szO P t=some n)(hd:rgRs live g x=some d)(hd':rgRs live g y=some d'){b off:Nat}(h1:evd R d= .ptr b off)
 (l1:(cellsOf (evd R d')).length=n) (h3:lall scalar (cellsOf (evd R d'))=true) {el:Nat} {sp:Bool} {c:Cs} (l2:off+n≤c.n):StoreSpecW P o (slotW live g R) b (.cells el sp c) (.cells el sp (cput c off (cellsOf (evd R d')))):=by
 have hx:x∈o.op.operands:=by rw[ho];simp[Op.operands]
 have hy:y∈o.op.operands:=by rw[ho];simp[Op.operands]
 refine ⟨(by intro c hc;rw[ho] at hc;cases hc),fun σ a hr=>?_,fun σ a w e hr he hbr=>?_⟩
 ·obtain ⟨e,e1,_⟩:=one_ptr hr.odR hx hd h1;exact ⟨e,e1⟩
 ·obtain ⟨e',e1,e2⟩:=one_ptr hr.odR hx hd h1
  rw[he] at e1;obtain rfl:=Option.some.inj e1
  have hc:=conc_cells (hr.odR y hy d' hd')
  obtain ⟨arr,fz,hcr⟩:=hbr
  have hlen:=concL_length hc
  obtain ⟨w',arr',k1,k2,k3,k4⟩:=run_storeCells_own (P:=P) e.blk (e.base+off) el fz (a.eval y).cells.toList 0 arr w hcr.at_ (by have:=hcr.room;have:=hcr.le;omega) hcr.thaw (scalars_one h3 hc)
  have hr2:=hcr.write (w':=w') hc (off:=off) (m:=c.n) (Nat.le_refl _) hcr.le (fun i hi=> .inl hi) (fun _=>rfl) k3 (by simpa using k4)
  refine ⟨w',?_,k2,fun l cl=>by rw[hcr.at_];simp,⟨arr',fz,hr2⟩⟩
  have hne:(a.eval y).cells.size=n:=by simpa[l1] using hlen
  simp only[execOp,ho,Instr.storeAt,e2,Instr.sureAddr,Sem.run_bind,Sem.run_pure,Result.andThen_ok,storeVar,run_sizeOf' hn,hne]
  simp[k1]
theorem fill_w{live:Nat}{g:Rg}{R:Fr}{o:Oper}{t kt et:TypeId}{m:Nat}{k v:Operand}{d:KEq}{dm dk dv:Od}(ho:o.op= .insert t (.tmp m) k v)(hu:tund P t=some (.map kt et))(hd:keyED P kt=some d)
 (hm:rgRs live g (.tmp m)=some dm) (hk:rgRs live g k=some dk) (hv:rgRs live g v=some dv) {b:Nat} (hb:evd R dm= .mp b) {bs:Bool} (hbs:d (evd R dk) (evd R dk)=some bs):FillSpecW P o (slotW live g R) b d (evd R dk) (evd R dv):=by
 refine ⟨(by intro c hc;rw[ho] at hc;cases hc),t,m,k,v,ho,?_,⟨kt,et,hu,hd⟩,fun ρ a h=>?_,fun ρ a w blk es l cl ha hK hV hw hmu hno=>?_⟩
 ·have:rgSlot live g m=some dm:=hm
  simp[slotW,this,hb]
 ·have one: ∀(z:Operand) (dz:Od),rgRs live g z=some dz→(∀t u,Operand.tmp t=z→slotW live g R t=some u→conc ρ u=some (a.tmps.getD t undef))→conc ρ (evd R dz)=some (a.eval z):=fun z dz hz hh=>by
   cases z with
   |tmp q=>exact hh q _ rfl (by have:rgSlot live g q=some dz:=hz;simp[slotW,this])
   |const u=>obtain ⟨u,rfl,hv⟩:=constOd_some (x:= .const u) hz;exact hv ρ a
   |global u=>obtain ⟨u,rfl,hv⟩:=constOd_some (x:= .global u) hz;exact hv ρ a
   |func u=>obtain ⟨u,rfl,hv⟩:=constOd_some (x:= .func u) hz;exact hv ρ a
  exact ⟨one k dk hk fun t u ht=>h t u (.inl ht),one v dv hv fun t u ht=>h t u (.inr ht)⟩
 ·obtain ⟨rr,f1,f2⟩:=run_findKey (P:=P) hd hK hmu (fun a ha=>⟨false,hno a ha⟩)
  have hno': ∀e∈l.toList,e.key≠a.eval k:=fun e he hk'=>by
   obtain ⟨q,q1,q2⟩:=hmu.left e he
   obtain ⟨s3,_⟩:=same_key (P:=P) hd (hno q q1) hK q2.1
   exact absurd (s3.2 hk'.symm) (by simp)
  have hrr:rr=none:=by
   rcases f2 with ⟨j,e,_,h2,h3⟩|⟨h,_⟩
   ·exact absurd h3 (hno' e (List.mem_of_getElem? h2))
   ·exact h
  subst hrr
  have hmr:=hmu.push hK hV hno'
  have hpl:(l.push ⟨a.eval k,a.eval v,cl⟩).toList=l.toList++[⟨a.eval k,a.eval v,cl⟩]:=by simp
  rw[←hpl] at hmr
  refine ⟨{w with heap:=w.heap.setIfInBounds blk (.map (l.push ⟨a.eval k,a.eval v,cl⟩) (cl+1))},_,_,?_,but_setObj w blk _,by simp[getElem?_lt hw],hmr⟩
  have hck:(Instr.checkKey false 10000 kt (a.eval k)).run P w= .ok () w:=run_checkKey hd hbs hK _ 9998 _
  have ha':a.eval (.tmp m)= .map (some blk):=ha
  simp only[execOp,ho,Instr.mapUpdate,ha']
  simp[run_und hu,MapKept.run_getObj_map hw,hck,f1,MapKept.run_setObj_map _ hw]
def WantW(ops:Array Oper)(o:Oper)(W:Wd)(r:Bool):Prop:=(guardS ops o=some none∧r=true)∨ ∃t want u,guardS ops o=some (some (t,want))∧W t=some u∧isW u want=r
inductive Kd where
 |skip
 |pure
 |read (b:Option Nat)
 |make (ob:AO) (b:Nat) (vf:Nat→AV)
 |lit (b:Nat)
 |fill (last:Bool) (b:Nat) (d:KEq) (key x:AV) (es:List (AV × AV))
 |store (b:Nat)
 |act
def SameH(H H':Hp):Prop:= ∀id,hget H' id=hget H id
def AddB(H:Hp)(b:Nat)(ob:AO)(H':Hp):Prop:=hget H' b=ob∧ ∀id,id≠b→hget H' id=hget H id
theorem SameH.refl(H:Hp):SameH H H:=fun _=>rfl
theorem addB_alloc(H:Hp)(b:Nat)(ob:AO):AddB H b ob (hallocK H ob b):=⟨hget_alloc_self _ _ _,fun _ h=>hget_alloc_ne _ _ h⟩
theorem addB_set(H:Hp)(b:Nat)(ob:AO):AddB H b ob (hset H b ob):=⟨hget_hset_self _ _ _,fun _ h=>hget_hset_ne _ _ h⟩
def EntOk(P:Program)(ops:Array Oper)(o:Oper)(W:Wd)(H:Hp)(v:AV)(H':Hp):Kd→Prop
 | .skip=>SameH H H'∧v=undf∧WantW ops o W false
 | .pure=>SameH H H'∧WantW ops o W true∧PSpecW P o W v
 | .read b=>SameH H H'∧WantW ops o W true∧RSpecW P o W H b v∧(∀c,b=some c→hget H c≠ .free)∧inHp H v=true
 | .make ob b vf=>hget H b= .free∧Plain ob∧AddB H b ob H'∧v=vf b∧WantW ops o W true∧MSpecW P o W ob vf
 | .lit b=>hget H b= .free∧SameH H H'∧v= .mp b∧WantW ops o W true∧MSpecW P o W (.map []) (fun b=> .mp b)∧ ∃m,o.dst=some m
 | .fill last b d key x es=>hget H b= .free∧(if last then AddB H b (.umap (es++[(key,x)])) H' else SameH H H')∧v=undf∧WantW ops o W true∧FillSpecW P o W b d key x∧ ∀e∈es,d key e.1=some false∧d e.1 key=some false
 | .store b=>v=undf∧WantW ops o W true∧ ∃el sp c c',hget H b= .cells el sp c∧AddB H b (.cells el sp c') H'∧StoreSpecW P o W b (.cells el sp c) (.cells el sp c')
 | .act=>WantW ops o W true∧OpSpecW P o W H v H'
structure Lg where
 V:Nat→AV
 H:Nat→Hp
 W:Nat→Wd
 K:Nat→Kd
def SeenW(P:Program)(o:Oper)(W:Wd)(bk:Option Nat)(v:AV)(H:Hp):Prop:=(∃c,bk=some c∧hget H c= .free)∨RSpecW P o W H bk v
def Kd.acts:Kd→Prop
 | .store _=>True
 | .act=>True
 |_=>False
def Kd.own:Kd→Option Nat
 | .store b=>some b
 |_=>none
def Kd.ent:Kd→List (AV × AV)
 | .fill _ _ _ key x _=>[(key,x)]
 |_=>[]
def ActsOk(m a:Nat)(ka kb:Kd):Prop:=m.testBit a=true∨ ∃p q,ka= .store p∧kb= .store q∧p≠q
structure LgOk (P:Program) (ops:Array Oper) (bl:List Nat) (F:Fs) (C:Ctx) (i:Nat) (Wi:Wd) (H:Hp) (L:Lg):Prop where
 atH:L.H i=H
 atW:L.W i=Wi
 ent: ∀j o,i≤j→ops[j]? =some o→L.W (j+1)=updW (L.W j) o.dst (L.V j)∧EntOk P ops o (L.W j) (L.H j) (L.V j) (L.H (j+1)) (L.K j)
 fwd: ∀a b o bk m,i≤a→a<b→ops[a]? =some o→b<ops.size→L.K a= .read bk→(L.K b).acts→bl[b]? =some m→m.testBit a=false→RSpecW P o (L.W a) (L.H (b+1)) bk (L.V a)
 bwd: ∀a b o bk m,i≤b→b<a→ops[a]? =some o→L.K a= .read bk→(L.K b).acts→bl[a]? =some m→m.testBit b=false→SeenW P o (L.W a) bk (L.V a) (L.H b)∧SeenW P o (L.W a) bk (L.V a) (L.H (b+1))
 two: ∀a b m,i≤a→a<b→b<ops.size→(L.K a).acts→(L.K b).acts→bl[b]? =some m→ActsOk m a (L.K a) (L.K b)
 lit1: ∀s b,i≤s→s<ops.size→L.K s= .lit b→C.ms=none∧ ∀s' b',i≤s'→s'<ops.size→L.K s'= .lit b'→s'=s
 lits: ∀j last b d key x es,i≤j→j<ops.size→L.K j= .fill last b d key x es→(∃es0,C.ms=some (b,es0)∧es=es0++(List.range' i (j-i)).flatMap fun q=>(L.K q).ent)∨(C.ms=none∧(∃s,i≤s∧s<j∧L.K s= .lit b)∧es=(List.range' i (j-i)).flatMap fun q=>(L.K q).ent)
 lastF: ∀j b d key x es o n,i≤j→ops[j]? =some o→L.K j= .fill true b d key x es→isIns n o=true→ ∀j' o',j<j'→ops[j']? =some o'→isIns n o'=false
 lastL: ∀j b d key x es o n,i≤j→ops[j]? =some o→L.K j= .fill false b d key x es→isIns n o=true→ ∃j' o',j<j'∧ops[j']? =some o'∧isIns n o'=true
 litK: ∀j o,i≤j→ops[j]? =some o→o.guard=none→isLit o (ops.toList.drop (j+1))=true→ ∃b,L.K j= .lit b
 litI: ∀j o b,i≤j→ops[j]? =some o→L.K j= .lit b→isLit o (ops.toList.drop (j+1))=true
 insK: ∀j o,i≤j→ops[j]? =some o→o.guard=none→anIns o=true→ ∃last b d key x es,L.K j= .fill last b d key x es
 ls: ∀ld∈C.ls, ∀b m,i≤b→b<ops.size→(L.K b).acts→bl[b]? =some m→m.testBit ld.i=false→ld.V.run F ld.T (L.H (b+1)) (sameV ld.v)=true
 es: ∀ef∈C.es, ∀a o bk m,i≤a→ops[a]? =some o→L.K a= .read bk→bl[a]? =some m→m.testBit ef.i=false→SeenW P o (L.W a) bk (L.V a) ef.a∧SeenW P o (L.W a) bk (L.V a) ef.b
 ea: ∀ef∈C.es, ∀b m,i≤b→b<ops.size→(L.K b).acts→bl[b]? =some m→m.testBit ef.i=true∨ ∃p q,ef.s=some p∧L.K b= .store q∧p≠q
def Lg.cons(L:Lg)(i:Nat)(v:AV)(H:Hp)(W:Wd)(k:Kd):Lg:=
 ⟨fun j=>if j=i then v else L.V j,fun j=>if j=i then H else L.H j,fun j=>if j=i then W else L.W j,fun j=>if j=i then k else L.K j⟩
section cons
variable (L:Lg) (i:Nat) (v:AV) (H:Hp) (W:Wd) (k:Kd)
theorem Lg.cons_V:(L.cons i v H W k).V i=v:=if_pos rfl
theorem Lg.cons_H:(L.cons i v H W k).H i=H:=if_pos rfl
theorem Lg.cons_W:(L.cons i v H W k).W i=W:=if_pos rfl
theorem Lg.cons_K:(L.cons i v H W k).K i=k:=if_pos rfl
variable {i} {j:Nat} (h:j≠i)
include h
theorem Lg.cons_V':(L.cons i v H W k).V j=L.V j:=if_neg h
theorem Lg.cons_H':(L.cons i v H W k).H j=L.H j:=if_neg h
theorem Lg.cons_W':(L.cons i v H W k).W j=L.W j:=if_neg h
theorem Lg.cons_K':(L.cons i v H W k).K j=L.K j:=if_neg h
end cons
theorem flatMap_eq{β:Type}{f g:Nat→List β}: ∀ {l:List Nat},(∀q∈l,f q=g q)→l.flatMap f=l.flatMap g
 |[],_=>rfl
 |a::l,h=>by rw[List.flatMap_cons,List.flatMap_cons,h a List.mem_cons_self,flatMap_eq fun q hq=>h q (List.mem_cons_of_mem _ hq)]
theorem flat_cons(L:Lg)(i:Nat)(v:AV)(H:Hp)(W:Wd)(k:Kd)(j:Nat)(h:i<j):
 ((List.range' i (j-i)).flatMap fun q=>((L.cons i v H W k).K q).ent)=k.ent++(List.range' (i+1) (j-(i+1))).flatMap fun q=>(L.K q).ent:=by
 rw[show j-i=(j-(i+1))+1 by omega,List.range'_succ,List.flatMap_cons,L.cons_K]
 congr 1
 refine flatMap_eq fun q hq=>?_
 rw[L.cons_K' _ _ _ _ (by have:=List.mem_range'.1 hq;omega)]
structure HeadOk (P:Program) (ops:Array Oper) (bl:List Nat) (F:Fs) (C C':Ctx) (i:Nat) (o:Oper) (Wi:Wd) (H:Hp) (v:AV) (H1:Hp) (kd:Kd):Prop where
 ls: ∀x∈C.ls,x∈C'.ls
 es: ∀x∈C.es,x∈C'.es
 ms:C'.ms=match kd with
  | .lit b=>some (b,[])
  | .fill _ b _ key x es=>some (b,es++[(key,x)])
  |_=>C.ms
 lit: ∀b,kd= .lit b→C.ms=none
 fill: ∀last b d key x es,kd= .fill last b d key x es→C.ms=some (b,es)
 act:kd.acts→(∀ld∈C.ls, ∀m,bl[i]? =some m→m.testBit ld.i=false→ld.V.run F ld.T H1 (sameV ld.v)=true)∧(∃ef∈C'.es,ef.i=i∧ef.a=H∧ef.b=H1∧ef.s=kd.own)∧
  ∀ef∈C.es, ∀m,bl[i]? =some m→m.testBit ef.i=true∨ ∃p q,ef.s=some p∧kd= .store q∧p≠q
 read: ∀bk,kd= .read bk→(∀ef∈C.es, ∀m,bl[i]? =some m→m.testBit ef.i=false→SeenW P o Wi bk v ef.a∧SeenW P o Wi bk v ef.b)∧ ∃ld∈C'.ls,ld.i=i∧ ∀H2,ld.V.run F ld.T H2 (sameV ld.v)=true→RSpecW P o Wi H2 bk v
 lastT: ∀b d key x es n,kd= .fill true b d key x es→isIns n o=true→ ∀j' o',i<j'→ops[j']? =some o'→isIns n o'=false
 lastN: ∀b d key x es n,kd= .fill false b d key x es→isIns n o=true→ ∃j' o',i<j'∧ops[j']? =some o'∧isIns n o'=true
 litK:o.guard=none→isLit o (ops.toList.drop (i+1))=true→ ∃b,kd= .lit b
 litI: ∀b,kd= .lit b→isLit o (ops.toList.drop (i+1))=true
 insK:o.guard=none→anIns o=true→ ∃last b d key x es,kd= .fill last b d key x es
theorem LgOk.cons{ops:Array Oper}{bl:List Nat}{C C':Ctx}{i:Nat}{Wi W1:Wd}{H H1:Hp}{L:Lg}(h:LgOk P ops bl F C' (i+1) W1 H1 L){o:Oper}(hi:ops[i]? =some o){v:AV}{kd:Kd}(hW:W1=updW Wi o.dst v)
 (hE:EntOk P ops o Wi H v H1 kd) (hh:HeadOk P ops bl F C C' i o Wi H v H1 kd):LgOk P ops bl F C i Wi H (L.cons i v H Wi kd):=by
 have nxt: ∀ {j:Nat},i≤j→j+1≠i:=fun h=>by omega
 have hsz:i<ops.size:=getElem?_lt hi
 constructor
 case atH=>exact L.cons_H ..
 case atW=>exact L.cons_W ..
 case ent=>
  intro j o' hj ho'
  by_cases hji:j=i
  ·subst hji
   rw[hi] at ho';obtain rfl:=Option.some.inj ho'
   rw[L.cons_W,L.cons_V,L.cons_H,L.cons_K,L.cons_W' _ _ _ _ (by omega),L.cons_H' _ _ _ _ (by omega),h.atW,h.atH]
   exact ⟨hW,hE⟩
  ·rw[L.cons_W' _ _ _ _ hji,L.cons_V' _ _ _ _ hji,L.cons_H' _ _ _ _ hji,L.cons_K' _ _ _ _ hji,L.cons_W' _ _ _ _ (nxt hj),L.cons_H' _ _ _ _ (nxt hj)]
   exact h.ent j o' (by omega) ho'
 case fwd=>
  intro a b o' bk m ha hab hoa hb ka kb hm hbit
  rw[L.cons_K' _ _ _ _ (by omega)] at kb
  rw[L.cons_H' _ _ _ _ (nxt (by omega))]
  by_cases hai:a=i
  ·subst hai
   rw[L.cons_K] at ka
   rw[hi] at hoa;obtain rfl:=Option.some.inj hoa
   rw[L.cons_W,L.cons_V]
   obtain ⟨_,ld,l1,l2,l3⟩:=hh.read bk ka
   exact l3 _ (h.ls ld l1 b m (by omega) hb kb hm (by rw[l2];exact hbit))
  ·rw[L.cons_K' _ _ _ _ hai] at ka
   rw[L.cons_W' _ _ _ _ hai,L.cons_V' _ _ _ _ hai]
   exact h.fwd a b o' bk m (by omega) hab hoa hb ka kb hm hbit
 case bwd=>
  intro a b o' bk m hb hba hoa ka kb hm hbit
  have hai:a≠i:=by omega
  rw[L.cons_K' _ _ _ _ hai] at ka
  rw[L.cons_W' _ _ _ _ hai,L.cons_V' _ _ _ _ hai,L.cons_H' _ _ _ _ (nxt hb)]
  by_cases hbi:b=i
  ·subst hbi
   rw[L.cons_K] at kb
   rw[L.cons_H]
   obtain ⟨_,⟨ef,e1,e2,e3,e4,_⟩,_⟩:=hh.act kb
   have:=h.es ef e1 a o' bk m (by omega) hoa ka hm (by rw[e2];exact hbit)
   rw[e3,e4] at this
   rw[h.atH];exact this
  ·rw[L.cons_K' _ _ _ _ hbi] at kb
   rw[L.cons_H' _ _ _ _ hbi]
   exact h.bwd a b o' bk m (by omega) hba hoa ka kb hm hbit
 case two=>
  intro a b m ha hab hb ka kb hm
  rw[L.cons_K' _ _ _ _ (by omega)] at kb
  have hkb:(L.cons i v H Wi kd).K b=L.K b:=L.cons_K' _ _ _ _ (by omega)
  rw[hkb]
  by_cases hai:a=i
  ·subst hai
   rw[L.cons_K] at ka ⊢
   obtain ⟨_,⟨ef,e1,e2,_,_,e5⟩,_⟩:=hh.act ka
   rcases h.ea ef e1 b m (by omega) hb kb hm with h1|⟨p,q,h1,h2,h3⟩
   ·rw[e2] at h1;exact .inl h1
   ·rw[e5] at h1
    cases kd <;> simp[Kd.own] at h1
    subst h1
    exact .inr ⟨_,q,rfl,h2,h3⟩
  ·rw[L.cons_K' _ _ _ _ hai] at ka ⊢
   exact h.two a b m (by omega) hab hb ka kb hm
 case lit1=>
  intro s b hs hss ks
  by_cases hsi:s=i
  ·subst hsi
   rw[L.cons_K] at ks
   refine ⟨hh.lit b ks,fun s' b' hs' hss' ks'=>?_⟩
   by_cases hsi':s'=s
   ·exact hsi'
   ·rw[L.cons_K' _ _ _ _ hsi'] at ks'
    have:=(h.lit1 s' b' (by omega) hss' ks').1
    rw[hh.ms,ks] at this;cases this
  ·rw[L.cons_K' _ _ _ _ hsi] at ks
   obtain ⟨h1,h2⟩:=h.lit1 s b (by omega) hss ks
   have hCm:C.ms=none∧ ∀b',kd≠ .lit b':=by
    rw[hh.ms] at h1
    cases kd <;> simp at h1 ⊢ <;> exact h1
   refine ⟨hCm.1,fun s' b' hs' hss' ks'=>?_⟩
   by_cases hsi':s'=i
   ·subst hsi';rw[L.cons_K] at ks';exact absurd ks' (hCm.2 b')
   ·rw[L.cons_K' _ _ _ _ hsi'] at ks'
    exact h2 s' b' (by omega) hss' ks'
 case lits=>
  intro j last b d key x es hj hjs kj
  by_cases hji:j=i
  ·subst hji
   rw[L.cons_K] at kj
   refine .inl ⟨es,hh.fill _ _ _ _ _ _ kj,?_⟩
   simp
  ·rw[L.cons_K' _ _ _ _ hji] at kj
   rw[flat_cons L i v H Wi kd j (by omega)]
   rcases h.lits j last b d key x es (by omega) hjs kj with ⟨es0,h1,h2⟩|⟨h1,⟨s,s1,s2,s3⟩,h2⟩
   ·rw[hh.ms] at h1
    cases kd with
    |lit b'=>
     simp at h1
     obtain ⟨rfl,rfl⟩:=h1
     refine .inr ⟨hh.lit _ rfl,⟨i,Nat.le_refl _,by omega,L.cons_K ..⟩,?_⟩
     rw[h2];rfl
    |fill last' b' d' key' x' es'=>
     simp at h1
     obtain ⟨rfl,rfl⟩:=h1
     refine .inl ⟨es',hh.fill _ _ _ _ _ _ rfl,?_⟩
     rw[h2];simp[Kd.ent]
    |_=>exact .inl ⟨es0,h1,by rw[h2];rfl⟩
   ·have hCm:C.ms=none∧kd.ent=[]:=by
     rw[hh.ms] at h1
     cases kd <;> simp[Kd.ent] at h1 ⊢ <;> exact h1
    refine .inr ⟨hCm.1,⟨s,by omega,s2,by rw[L.cons_K' _ _ _ _ (by omega)];exact s3⟩,?_⟩
    rw[hCm.2,h2];rfl
 case lastF=>
  intro j b d key x es o' n hj hoj kj hn
  by_cases hji:j=i
  ·subst hji
   rw[L.cons_K] at kj
   rw[hi] at hoj;obtain rfl:=Option.some.inj hoj
   exact hh.lastT b d key x es n kj hn
  ·rw[L.cons_K' _ _ _ _ hji] at kj
   exact h.lastF j b d key x es o' n (by omega) hoj kj hn
 case lastL=>
  intro j b d key x es o' n hj hoj kj hn
  by_cases hji:j=i
  ·subst hji
   rw[L.cons_K] at kj
   rw[hi] at hoj;obtain rfl:=Option.some.inj hoj
   exact hh.lastN b d key x es n kj hn
  ·rw[L.cons_K' _ _ _ _ hji] at kj
   exact h.lastL j b d key x es o' n (by omega) hoj kj hn
 case litK=>
  intro j o' hj hoj hg hl
  by_cases hji:j=i
  ·subst hji
   rw[L.cons_K]
   rw[hi] at hoj;obtain rfl:=Option.some.inj hoj
   exact hh.litK hg hl
  ·rw[L.cons_K' _ _ _ _ hji]
   exact h.litK j o' (by omega) hoj hg hl
 case litI=>
  intro j o' b hj hoj kj
  by_cases hji:j=i
  ·subst hji
   rw[L.cons_K] at kj
   rw[hi] at hoj;obtain rfl:=Option.some.inj hoj
   exact hh.litI b kj
  ·rw[L.cons_K' _ _ _ _ hji] at kj
   exact h.litI j o' b (by omega) hoj kj
 case insK=>
  intro j o' hj hoj hg hl
  by_cases hji:j=i
  ·subst hji
   rw[L.cons_K]
   rw[hi] at hoj;obtain rfl:=Option.some.inj hoj
   exact hh.insK hg hl
  ·rw[L.cons_K' _ _ _ _ hji]
   exact h.insK j o' (by omega) hoj hg hl
 case ls=>
  intro ld hld b m hb hsz' kb hm hbit
  rw[L.cons_H' _ _ _ _ (nxt hb)]
  by_cases hbi:b=i
  ·subst hbi
   rw[L.cons_K] at kb
   rw[h.atH]
   exact (hh.act kb).1 ld hld m hm hbit
  ·rw[L.cons_K' _ _ _ _ hbi] at kb
   exact h.ls ld (hh.ls ld hld) b m (by omega) hsz' kb hm hbit
 case es=>
  intro ef hef a o' bk m ha hoa ka hm hbit
  by_cases hai:a=i
  ·subst hai
   rw[L.cons_K] at ka
   rw[hi] at hoa;obtain rfl:=Option.some.inj hoa
   rw[L.cons_W,L.cons_V]
   exact (hh.read bk ka).1 ef hef m hm hbit
  ·rw[L.cons_K' _ _ _ _ hai] at ka
   rw[L.cons_W' _ _ _ _ hai,L.cons_V' _ _ _ _ hai]
   exact h.es ef (hh.es ef hef) a o' bk m (by omega) hoa ka hm hbit
 case ea=>
  intro ef hef b m hb hbs kb hm
  by_cases hbi:b=i
  ·subst hbi
   rw[L.cons_K] at kb ⊢
   exact (hh.act kb).2.2 ef hef m hm
  ·rw[L.cons_K' _ _ _ _ hbi] at kb ⊢
   exact h.ea ef (hh.es ef hef) b m (by omega) hbs kb hm
theorem unord_iff{m j:Nat}:unord m j=true↔m.testBit j=false:=by simp[unord,bnot_eq]
theorem reOk_true{live:Nat}{g:Rg}{R:Fr}{o:Oper}{V:VB}(hV:RShows P (rgRs live g) o V){x:Od}(hx:readAt (rgRs live g) o=some x){v:AV}{H:Hp}(h:reOk F V R v (blkOf (evd R x)) H=true):SeenW P o (slotW live g R) (blkOf (evd R x)) v H:=by
 unfold reOk at h
 rw[bc_eq] at h
 split at h
 ·rename_i ha
  unfold absent at ha
  split at ha
  ·rename_i b hb;exact .inl ⟨b,hb,isFree_iff.1 ha⟩
  ·cases ha
 ·obtain ⟨x',u,h1,h2,h3,h4⟩:=hV F R H _ h
  rw[hx] at h1;obtain rfl:=Option.some.inj h1
  rw[avBeq_eq _ _ h2] at h3
  exact .inr h3.w
theorem guardOd_want{live:Nat}{g:Rg}{R:Fr}{ops:Array Oper}{o:Oper}{d:Od}{want:Bool}(h:guardOd live g ops o=some (some (d,want))):WantW ops o (slotW live g R) (isW (evd R d) want):=by
 unfold guardOd at h
 split at h
 ·cases h
 ·cases h
 ·rename_i t want' h1
  split at h
  ·rename_i d' h2
   simp only[Option.some.injEq,Prod.mk.injEq] at h
   obtain ⟨rfl,rfl⟩:=h
   exact .inr ⟨t,_,evd R d',h1,by simp[slotW,h2],rfl⟩
  ·cases h
theorem guardOd_none{live:Nat}{g:Rg}{R:Fr}{ops:Array Oper}{o:Oper}(h:guardOd live g ops o=some none):WantW ops o (slotW live g R) true:=by
 unfold guardOd at h
 split at h
 ·cases h
 ·rename_i h1;exact .inl ⟨h1,rfl⟩
 ·split at h <;> cases h
theorem mkMap_spec{rs:Rs}{o:Oper}{R:Fr}{t:TypeId}(ho:o.op= .makeMap t none):MSpec P rs o R (.map []) (fun b=> .mp b):=by
 refine ⟨(by intro c hc;rw[ho] at hc;cases hc),fun σ a w hr=>?_⟩
 refine ⟨.map (some w.heap.size),_,⟨w.heap.size,0,0⟩,by simp[execOp,ho,Instr.makeMap,newObj,Sem.run],⟨more_push w (.map #[] 0),rfl,by simp,⟨#[],0,by simp,⟨trivial,by simp,by simp,rfl⟩⟩⟩,fun τ b ht=>by simp[conc,ht]⟩
theorem HeadOk.plain{ops:Array Oper}{bl:List Nat}{C:Ctx}{i:Nat}{o:Oper}{Wi:Wd}{H:Hp}{v:AV}{H1:Hp}{kd:Kd}(h:kd= .skip∨kd= .pure∨ ∃ob b vf,kd= .make ob b vf)
 (hl:o.guard=none→isLit o (ops.toList.drop (i+1))=true→False) (hn:o.guard=none→anIns o=true→False):HeadOk P ops bl F C C i o Wi H v H1 kd:=by
 rcases h with rfl|rfl|⟨ob,b,vf,rfl⟩ <;> exact ⟨fun _ h=>h,fun _ h=>h,rfl,nofun,nofun,nofun,nofun,nofun,nofun,fun h1 h2=>(hl h1 h2).elim,nofun,fun h1 h2=>(hn h1 h2).elim⟩
theorem anyIns_iff{n:Nat}: ∀ {l:List Oper},anyIns n l=true↔ ∃(j:Nat) (o:Oper),l[j]? =some o∧isIns n o=true
 |[]=>by simp[anyIns]
 |o::l=>by
  unfold anyIns
  rw[bc_eq]
  by_cases h:isIns n o=true
  ·rw[if_pos h];exact ⟨fun _=>⟨0,o,rfl,h⟩,fun _=>rfl⟩
  ·rw[if_neg h,anyIns_iff]
   constructor
   ·rintro ⟨j,o',h1,h2⟩;exact ⟨j+1,o',h1,h2⟩
   ·rintro ⟨j,o',h1,h2⟩
    cases j with
    |zero=>simp at h1;subst h1;exact absurd h2 h
    |succ j=>exact ⟨j,o',h1,h2⟩
theorem isF_iff{o:Option Bool}:isF o=true↔o=some false:=by
 cases o with
 |none=>simp[isF]
 |some b=>cases b <;> simp[isF]
theorem prepD_sound(hX:XSound P X)(hF:FSound P F)(ops:Array Oper)(bl:List Nat)(live:Nat): ∀(l:List Oper) (ms:List Nat) (i:Nat) (g:Rg) (R:Fr) (H:Hp) (C:Ctx) (k:KN),ops.toList.drop i=l→bl.drop i=ms→ms.length=l.length→RgOk g→
 (prepD P X live ops l ms i g).run F C R H k=true→ ∃(L:Lg) (T':Tr AV),k T' (L.H ops.size)=true∧(∀t,live.testBit t=true→L.W ops.size t=some (getT undf (toP t) T'))∧LgOk P ops bl F C i (slotW live g R) H L
 |[],ms,i,g,R,H,C,k,hl,hms,hlen,hg,hk=>by
  have hsz:ops.size≤i:=by
   have:=congrArg List.length hl
   simp at this;omega
  have hk':k (flushT R (flushOf live g.n g.ws 0)) H=true:=by
   cases ms with
   |nil=>exact hk
   |cons m ms=>simp at hlen
  refine ⟨⟨fun _=>undf,fun _=>H,fun _=>slotW live g R,fun _=> .skip⟩,_,hk',fun t ht=>?_,⟨rfl,rfl,fun j o hj ho=>?_,fun a b o bk m ha hab hoa hb=>nofun,fun a b o bk m hb hba hoa=>nofun,fun _ _ _ _ _ _=>nofun,fun _ _ _ _=>nofun,fun _ _ _ _ _ _ _ _ _=>nofun,fun _ _ _ _ _ _ _ _ _ _=>nofun,fun _ _ _ _ _ _ _ _ _ _=>nofun,fun j o hj ho=>(by have:=getElem?_lt ho;omega),fun _ _ _ _ _=>nofun,fun j o hj ho=>(by have:=getElem?_lt ho;omega),fun ld hld b m hb hsz'=>nofun,fun ef hef a o bk m ha hoa=>nofun,fun _ _ _ _ _ _=>nofun⟩⟩
  ·rw[flush_get R live g.n g.ws 0 t ht (by simp)]
   simp only[slotW,rgSlot]
   cases hw:whFind t g.ws with
   |some w=>rfl
   |none=>
    simp only
    rw[bc_eq,if_pos ht];rfl
  ·have:=getElem?_lt ho;omega
 |o::l,ms,i,g,R,H,C,k,hl,hms,hlen,hg,hk=>by
  have hi:ops[i]? =some o:=by
   have:(ops.toList.drop i)[0]? =some o:=by rw[hl];rfl
   simpa using this
  have hl':ops.toList.drop (i+1)=l:=by
   have:(ops.toList.drop i).drop 1=l:=by rw[hl];rfl
   rwa [List.drop_drop] at this
  have hnext: ∀j o',ops[j]? =some o'→i<j→l[j-(i+1)]? =some o':=fun j o' h1 h2=>by
   rw[←hl']
   simp only[List.getElem?_drop,Array.getElem?_toList]
   rw[show i+1+(j-(i+1))=j by omega];exact h1
  have hback: ∀j o',l[j]? =some o'→ops[i+1+j]? =some o':=fun j o' h1=>by
   rw[←hl'] at h1
   simpa only[List.getElem?_drop,Array.getElem?_toList] using h1
  cases ms with
  |nil=>simp at hlen
  |cons m ms=>
  have hm:bl[i]? =some m:=by
   have:(bl.drop i)[0]? =some m:=by rw[hms];rfl
   simpa using this
  have hms':bl.drop (i+1)=ms:=by
   have:(bl.drop i).drop 1=ms:=by rw[hms];rfl
   rwa [List.drop_drop] at this
  have hlen':ms.length=l.length:=by simpa using hlen
  have hlt:i≠ops.size:=by have:=getElem?_lt hi;omega
  have fin: ∀ {L:Lg} {T':Tr AV} {v:AV} {kd:Kd},k T' (L.H ops.size)=true→(∀t,live.testBit t=true→L.W ops.size t=some (getT undf (toP t) T'))→LgOk P ops bl F C i (slotW live g R) H (L.cons i v H (slotW live g R) kd)→
   ∃(L:Lg) (T':Tr AV),k T' (L.H ops.size)=true∧(∀t,live.testBit t=true→L.W ops.size t=some (getT undf (toP t) T'))∧LgOk P ops bl F C i (slotW live g R) H L:=fun {L T' v kd} h1 h2 h3=>
   ⟨_,T',by rw[L.cons_H' _ _ _ _ (Ne.symm hlt)];exact h1,fun t ht=>by rw[L.cons_W' _ _ _ _ (Ne.symm hlt)];exact h2 t ht,h3⟩
  have sh:=prepOp_shows (rs:=rgRs live g) (o:=o) hX hF
  have lds: ∀ {H1:Hp},lall (ldOk m F H1) C.ls=true→ ∀ld∈C.ls, ∀m',bl[i]? =some m'→m'.testBit ld.i=false→ld.V.run F ld.T H1 (sameV ld.v)=true:=fun {H1} c1 ld hld m' hm' hbit=>by
   rw[hm] at hm';obtain rfl:=Option.some.inj hm'
   have h2:=(lall_iff _ _).1 c1 ld hld
   unfold ldOk at h2
   rw[bc_eq,if_pos (unord_iff.2 hbit)] at h2
   exact h2
  have step1:(o.guard=none→isLit o (ops.toList.drop (i+1))=true→False)→(o.guard=none→anIns o=true→False)→WantW ops o (slotW live g R) true→(stepD1 (clsOp P o) (readAt (rgRs live g) o) i m (prepOp P X (rgRs live g) o) (prepD P X live ops l ms (Nat.add i 1) (rgOp g o))).run F C R H k=true→
   ∃(L:Lg) (T':Tr AV),k T' (L.H ops.size)=true∧(∀t,live.testBit t=true→L.W ops.size t=some (getT undf (toP t) T'))∧LgOk P ops bl F C i (slotW live g R) H L:=fun hnl hni hwant hk=>by
   have hcls:clsOp P o=0∨clsOp P o=1∨clsOp P o=2∨clsOp P o=3:=by
    unfold clsOp
    repeat' split
    all_goals simp
   rcases hcls with hc|hc|hc|hc
   ·rw[hc] at hk
    obtain ⟨v,hk1,hs⟩:=sh.pure hc F R H _ hk
    obtain ⟨L,T',q1,q2,q3⟩:=prepD_sound hX hF ops bl live l ms (i+1) (rgOp g o) (pushE R v) H C k hl' hms' hlen' (hg.op o) hk1
    exact fin q1 q2 (q3.cons (kd:= .pure) hi (slotW_op hg v) ⟨SameH.refl _,hwant,hs.w⟩ (.plain (.inr (.inl rfl)) hnl hni))
   ·rw[hc] at hk
    cases hx:readAt (rgRs live g) o with
    |none=>rw[hx] at hk;exact absurd hk Bool.false_ne_true
    |some x=>
     rw[hx] at hk
     have hV:=sh.read hc
     obtain ⟨x',v,h1,hk1,hs,hfr⟩:=hV F R H _ hk
     rw[hx] at h1;obtain rfl:=Option.some.inj h1
     obtain ⟨c0,hk1⟩:=chk_iff.1 hk1
     obtain ⟨c1,hk2⟩:=chk_iff.1 hk1
     obtain ⟨L,T',q1,q2,q3⟩:=prepD_sound hX hF ops bl live l ms (i+1) (rgOp g o) (pushE R v) H ⟨⟨i,prepOp P X (rgRs live g) o,R,v⟩::C.ls,C.es,C.ms⟩ k hl' hms' hlen' (hg.op o) hk2
     refine fin q1 q2 (q3.cons (kd:= .read (blkOf (evd R x))) hi (slotW_op hg v) ⟨SameH.refl _,hwant,hs.w,hfr,c0⟩ ⟨fun _ h=>List.mem_cons_of_mem _ h,fun _ h=>h,rfl,nofun,nofun,nofun,fun bk hbk=>?_,nofun,nofun,fun h1 h2=>(hnl h1 h2).elim,nofun,fun h1 h2=>(hni h1 h2).elim⟩)
     obtain rfl:blkOf (evd R x)=bk:=by injection hbk
     refine ⟨fun ef hef m' hm' hbit=>?_,_,List.mem_cons_self,rfl,fun H2 hr=>?_⟩
     ·rw[hm] at hm';obtain rfl:=Option.some.inj hm'
      have h2:=(lall_iff _ _).1 c1 ef hef
      unfold efOk at h2
      rw[bc_eq,if_pos (unord_iff.2 hbit)] at h2
      obtain ⟨h3,h4⟩:=chk_iff.1 h2
      exact ⟨reOk_true hV hx h3,reOk_true hV hx h4⟩
     ·obtain ⟨x2,u,e1,e2,e3,_⟩:=hV F R H2 _ hr
      rw[hx] at e1;obtain rfl:=Option.some.inj e1
      rw[avBeq_eq _ _ e2] at e3
      exact e3.w
   ·rw[hc] at hk
    obtain ⟨ob,vf,b,hb,hpl,hk1,hs⟩:=sh.make hc F R H _ hk
    obtain ⟨L,T',q1,q2,q3⟩:=prepD_sound hX hF ops bl live l ms (i+1) (rgOp g o) (pushE R (vf b)) (hallocK H ob b) C k hl' hms' hlen' (hg.op o) hk1
    exact fin q1 q2 (q3.cons (kd:= .make ob b vf) hi (slotW_op hg _) ⟨hb,hpl,addB_alloc _ _ _,rfl,hwant,hs.w⟩ (.plain (.inr (.inr ⟨_,_,_,rfl⟩)) hnl hni))
   ·rw[hc] at hk
    obtain ⟨v,H1,hk1,hs⟩:=sh.op R H _ hk
    obtain ⟨c0,hk1⟩:=chk_iff.1 hk1
    obtain ⟨c1,hk2⟩:=chk_iff.1 hk1
    obtain ⟨L,T',q1,q2,q3⟩:=prepD_sound hX hF ops bl live l ms (i+1) (rgOp g o) (pushE R v) H1 ⟨C.ls,⟨i,H,H1,none⟩::C.es,C.ms⟩ k hl' hms' hlen' (hg.op o) hk2
    refine fin q1 q2 (q3.cons (kd:= .act) hi (slotW_op hg v) ⟨hwant,hs.w⟩ ⟨fun _ h=>h,fun _ h=>List.mem_cons_of_mem _ h,rfl,nofun,nofun,fun _=>⟨lds c1,⟨_,List.mem_cons_self,rfl,rfl,rfl,rfl⟩,fun ef hef m' hm'=>?_⟩,nofun,nofun,nofun,fun h1 h2=>(hnl h1 h2).elim,nofun,fun h1 h2=>(hni h1 h2).elim⟩)
    rw[hm] at hm';obtain rfl:=Option.some.inj hm'
    exact .inl ((lall_iff _ _).1 c0 ef hef)
  have step:WantW ops o (slotW live g R) true→(stepD2 P (rgRs live g) o l i m (prepOp P X (rgRs live g) o) (prepD P X live ops l ms (Nat.add i 1) (rgOp g o))).run F C R H k=true→
   ∃(L:Lg) (T':Tr AV),k T' (L.H ops.size)=true∧(∀t,live.testBit t=true→L.W ops.size t=some (getT undf (toP t) T'))∧LgOk P ops bl F C i (slotW live g R) H L:=fun hwant hk=>by
   unfold stepD2 at hk
   split at hk
   ·rename_i t x y ho
    unfold stepStore at hk
    split at hk
    ·rename_i n d e hn hd he
     obtain ⟨b,off,h1,hk2⟩:=asPtr_true hk
     obtain ⟨h2,hk3⟩:=chk_iff.1 hk2
     obtain ⟨h3,hk4⟩:=chk_iff.1 hk3
     obtain ⟨el,sp,c,h4,hk5⟩:=hcells_true hk4
     obtain ⟨h5,hk6⟩:=chk_iff.1 hk5
     obtain ⟨c0,hk6⟩:=chk_iff.1 hk6
     obtain ⟨c1,hk7⟩:=chk_iff.1 hk6
     obtain ⟨L,T',q1,q2,q3⟩:=prepD_sound hX hF ops bl live l ms (i+1) (rgOp g o) (pushE R undf) _ ⟨C.ls,⟨i,H,_,some b⟩::C.es,C.ms⟩ k hl' hms' hlen' (hg.op o) hk7
     refine fin q1 q2 (q3.cons (kd:= .store b) hi (slotW_op hg _) ⟨rfl,hwant,el,sp,c,_,h4,addB_set _ _ _,store_w ho hn hd he h1 (by rw[←llen_eq];exact beq_iff.1 h2) h3 (ble_iff.1 h5)⟩
      ⟨fun _ h=>h,fun _ h=>List.mem_cons_of_mem _ h,rfl,nofun,nofun,fun _=>⟨lds c1,⟨_,List.mem_cons_self,rfl,rfl,rfl,rfl⟩,fun ef hef m' hm'=>?_⟩,nofun,nofun,nofun,fun _ h=>(by simp[isLit,ho] at h),nofun,fun _ h=>(by simp[anIns,ho] at h)⟩)
     rw[hm] at hm';obtain rfl:=Option.some.inj hm'
     have h6:=(lall_iff _ _).1 c0 ef hef
     unfold efS at h6
     rw[bc_eq] at h6
     split at h6
     ·rename_i h7;exact .inl h7
     ·split at h6
      ·rename_i b' hb'
       refine .inr ⟨b',b,hb',rfl,?_⟩
       rintro rfl
       simp[bnot_eq] at h6
      ·cases h6
    ·exact absurd hk Bool.false_ne_true
   ·rename_i t n x y ho
    unfold stepIns at hk
    split at hk
    ·rename_i kt et hu
     split at hk
     ·rename_i d dm dk dv hd hdm hdk hdv
      obtain ⟨hs0,hk1⟩:=chk_iff.1 (show chk (selfKey d (evd R dk)) (asMap (evd R dm) false (rDFb (bnot (anyIns n l)) d (evd R dk) (evd R dv) (prepD P X live ops l ms (Nat.add i 1) (rgOp g o)) F C R H k))=true from hk)
      obtain ⟨bs,hbs⟩:=self_true hs0
      rcases asMap_true hk1 with ⟨_,h⟩|⟨b,hb,hk2⟩
      ·cases h
      have hfw:=fill_w (P:=P) ho hu hd hdm hdk hdv hb hbs
      have hisn: ∀n',isIns n' o=true→n'=n:=fun n' h=>by
       simp only[isIns,ho] at h
       exact (beq_iff.1 h).symm
      unfold rDFb at hk2
      split at hk2
      ·rename_i b' es hms0
       obtain ⟨hbb,hk3⟩:=chk_iff.1 hk2
       obtain rfl:=beq_iff.1 hbb
       obtain ⟨hnk,hk4⟩:=chk_iff.1 hk3
       have hno: ∀e∈es,d (evd R dk) e.1=some false∧d e.1 (evd R dk)=some false:=fun e he=>by
        have:=(lall_iff _ _).1 hnk e he
        obtain ⟨h1,h2⟩:=chk_iff.1 this
        exact ⟨isF_iff.1 h1,isF_iff.1 h2⟩
       obtain ⟨hfree,hk4⟩:=chk_iff.1 hk4
       rw[bc_eq] at hk4
       split at hk4
       ·rename_i hlast
        obtain ⟨L,T',q1,q2,q3⟩:=prepD_sound hX hF ops bl live l ms (i+1) (rgOp g o) (pushE R undf) _ ⟨C.ls,C.es,some (b',lapp es [(evd R dk,evd R dv)])⟩ k hl' hms' hlen' (hg.op o) hk4
        rw[lapp_eq] at q3
        refine fin q1 q2 (q3.cons (kd:= .fill true b' d (evd R dk) (evd R dv) es) hi (slotW_op hg _) ⟨isFree_iff.1 hfree,?_,rfl,hwant,hfw,hno⟩
         ⟨fun _ h=>h,fun _ h=>h,rfl,nofun,fun _ _ _ _ _ _ h=>?_,nofun,nofun,fun _ _ _ _ _ n' _ hn' j' o' hj' hoj'=>?_,nofun,fun _ h=>(by simp[isLit,ho] at h),nofun,fun _ _=>⟨_,_,_,_,_,_,rfl⟩⟩)
        ·rw[if_pos rfl];exact addB_set _ _ _
        ·injection h with _ h2 _ _ _ h6
         rw[hms0,h2,h6]
        ·obtain rfl:=hisn n' hn'
         cases h9:isIns n' o' with
         |false=>rfl
         |true=>
          have:=anyIns_iff.2 ⟨_,o',hnext j' o' hoj' hj',h9⟩
          rw[this] at hlast;cases hlast
       ·rename_i hlast
        have hany:anyIns n l=true:=by
         cases h:anyIns n l with
         |true=>rfl
         |false=>rw[h] at hlast;exact absurd rfl hlast
        obtain ⟨j0,o0,hj0,hi0⟩:=anyIns_iff.1 hany
        obtain ⟨L,T',q1,q2,q3⟩:=prepD_sound hX hF ops bl live l ms (i+1) (rgOp g o) (pushE R undf) _ ⟨C.ls,C.es,some (b',lapp es [(evd R dk,evd R dv)])⟩ k hl' hms' hlen' (hg.op o) hk4
        rw[lapp_eq] at q3
        refine fin q1 q2 (q3.cons (kd:= .fill false b' d (evd R dk) (evd R dv) es) hi (slotW_op hg _) ⟨?_,?_,rfl,hwant,hfw,hno⟩
         ⟨fun _ h=>h,fun _ h=>h,rfl,nofun,fun _ _ _ _ _ _ h=>?_,nofun,nofun,nofun,fun _ _ _ _ _ n' _ hn'=>?_,fun _ h=>(by simp[isLit,ho] at h),nofun,fun _ _=>⟨_,_,_,_,_,_,rfl⟩⟩)
        ·exact isFree_iff.1 hfree
        ·simp only[Bool.false_eq_true,if_false];exact SameH.refl _
        ·injection h with _ h2 _ _ _ h6
         rw[hms0,h2,h6]
        ·obtain rfl:=hisn n' hn'
         exact ⟨i+1+j0,o0,by omega,hback _ _ hj0,hi0⟩
      ·cases hk2
     ·exact absurd hk Bool.false_ne_true
    ·exact absurd hk Bool.false_ne_true
   ·exact absurd hk Bool.false_ne_true
   ·rw[bc_eq] at hk
    split at hk
    ·rename_i hlit
     unfold isLit at hlit
     split at hlit
     ·rename_i t mm ho hdst
      have hk:lit H.next (rDL2 (prepD P X live ops l ms (Nat.add i 1) (rgOp g o)) F C R H k)=true:=hk
      rw[lit_eq] at hk
      unfold rDL2 at hk
      split at hk
      ·rename_i hms0
       obtain ⟨hfree,hk1⟩:=chk_iff.1 hk
       obtain ⟨L,T',q1,q2,q3⟩:=prepD_sound hX hF ops bl live l ms (i+1) (rgOp g o) (pushE R (.mp H.next)) _ ⟨C.ls,C.es,some (H.next,[])⟩ k hl' hms' hlen' (hg.op o) hk1
       refine fin q1 q2 (q3.cons (kd:= .lit H.next) hi (slotW_op hg _) ⟨isFree_iff.1 hfree,fun _=>rfl,rfl,hwant,(mkMap_spec ho).w,mm,hdst⟩
        ⟨fun _ h=>h,fun _ h=>h,rfl,fun _ _=>hms0,nofun,nofun,nofun,nofun,nofun,fun _ _=>⟨_,rfl⟩,fun _ _=>by rw[hl'];simp only[isLit,ho,hdst];exact hlit,fun _ h=>(by simp[anIns,ho] at h)⟩)
      ·cases hk
     ·cases hlit
    ·rename_i hns hni hnl
     refine step1 (fun _ h=>hnl (by rw[←hl'];exact h)) (fun _ h=>?_) hwant hk
     unfold anIns at h
     split at h
     ·rename_i t x y z ho
      exact hni _ _ _ _ ho
     ·cases h
  unfold prepD at hk
  split at hk
  ·rename_i x hmv
   unfold moveDB at hk
   split at hk
   ·rename_i w' hw'
    obtain ⟨L,T',q1,q2,q3⟩:=prepD_sound hX hF ops bl live l ms (i+1) (rgMove g o w') R H C k hl' hms' hlen' (hg.move o (rgWh_ok hg hw')) hk
    have hop:o.guard=none∧(o.op= .move x∨o.op= .assign x):=by
     unfold moveOf at hmv
     split at hmv
     ·rename_i h1 h2;obtain rfl:=Option.some.inj hmv;exact ⟨h1, .inl h2⟩
     ·rename_i h1 h2;obtain rfl:=Option.some.inj hmv;exact ⟨h1, .inr h2⟩
     ·cases hmv
    have hx:x∈o.op.operands:=by rcases hop.2 with h|h <;> rw[h] <;> simp[Op.operands]
    refine fin q1 q2 (q3.cons (kd:= .pure) hi (slotW_move w') ⟨SameH.refl _, .inl ⟨by simp[guardS,hop.1],rfl⟩,⟨(by intro c hc;rcases hop.2 with h|h <;> rw[h] at hc <;> cases hc),fun σ a ho=>⟨a.eval x,?_,fun w=>(by rcases hop.2 with h|h <;> simp only[execOp,h] <;> rfl)⟩⟩⟩ (.plain (.inr (.inl rfl)) (fun _ h=>by rcases hop.2 with h'|h' <;> simp[isLit,h'] at h) (fun _ h=>by rcases hop.2 with h'|h' <;> simp[anIns,h'] at h)))
    have: ∀d,rgRs live g x=some d→conc σ (evd R d)=some (a.eval x):=ho.odR x hx
    unfold rgWh at hw'
    split at hw'
    ·rename_i t
     split at hw'
     ·rename_i w1 h1
      obtain rfl:=Option.some.inj hw'
      exact this _ (by simp[rgRs,rgSlot,h1])
     ·rename_i h1
      rw[bc_eq] at hw'
      split at hw'
      ·rename_i hlv
       obtain rfl:=Option.some.inj hw'
       exact this _ (by simp only[rgRs,rgSlot,h1];rw[bc_eq,if_pos hlv];rfl)
      ·cases hw'
    ·rename_i hnt
     cases hc:constOd x with
     |none=>rw[hc] at hw';cases hw'
     |some d=>
      rw[hc] at hw'
      obtain rfl:=Option.some.inj hw'
      obtain ⟨v,rfl,hv⟩:=constOd_some hc
      exact hv σ a
   ·exact absurd hk Bool.false_ne_true
  ·unfold stepDB at hk
   split at hk
   ·exact absurd hk Bool.false_ne_true
   ·rename_i hgd
    exact step (guardOd_none hgd) hk
   ·rename_i d want hgd
    have hk':bc (isW (evd R d) want) ((stepD2 P (rgRs live g) o l i m (prepOp P X (rgRs live g) o) (prepD P X live ops l ms (Nat.add i 1) (rgOp g o))).run F C R H k) ((prepD P X live ops l ms (Nat.add i 1) (rgOp g o)).run F C (pushE R undf) H k)=true:=hk
    have hwn:=guardOd_want (R:=R) hgd
    have hgn:o.guard=none→False:=fun h=>by simp[guardOd,guardS,h] at hgd
    rw[bc_eq] at hk'
    split at hk'
    ·rename_i hw
     rw[hw] at hwn
     exact step hwn hk'
    ·rename_i hw
     have hw':isW (evd R d) want=false:=by simpa using hw
     rw[hw'] at hwn
     obtain ⟨L,T',q1,q2,q3⟩:=prepD_sound hX hF ops bl live l ms (i+1) (rgOp g o) (pushE R undf) H C k hl' hms' hlen' (hg.op o) hk'
     exact fin q1 q2 (q3.cons (kd:= .skip) hi (slotW_op hg undf) ⟨SameH.refl _,rfl,hwn⟩ (.plain (.inl rfl) (fun h _=>hgn h) (fun h _=>hgn h)))
end
end Go.Ev
namespace Go.Ev
section order
variable {P:Program} {ops:Array Oper}
inductive Bef (ops:Array Oper):Nat→Nat→Prop
 |edge {k:Nat} {o:Oper} {e:Edge}:ops[k]? =some o→e∈o.after→Region.binds .any e=true→Bef ops e.on k
 |trans {i k:Nat} {o:Oper} {e:Edge}:ops[k]? =some o→e∈o.after→Region.binds .any e=true→Bef ops i e.on→Bef ops i k
theorem foldEdges{acc:Array Nat}{i:Nat}: ∀(l:List Edge) (s:Nat),(l.foldl (fun s e=>if Region.binds .any e then s ||| 2 ^ e.on ||| acc.getD e.on 0 else s) s).testBit i=true→
 s.testBit i=true∨ ∃e∈l,Region.binds .any e=true∧(e.on=i∨(acc.getD e.on 0).testBit i=true)
 |[],s,h=> .inl h
 |e::l,s,h=>by
  rw[List.foldl_cons] at h
  rcases foldEdges l _ h with h1|⟨e',h1,h2,h3⟩
  ·split at h1
   ·rename_i hb
    simp only[Nat.testBit_or,Bool.or_eq_true] at h1
    rcases h1 with (h1|h1)|h1
    ·exact .inl h1
    ·rw[Nat.testBit_two_pow] at h1
     exact .inr ⟨e,List.mem_cons_self,hb, .inl (of_decide_eq_true h1)⟩
    ·exact .inr ⟨e,List.mem_cons_self,hb, .inr h1⟩
   ·exact .inl h1
  ·exact .inr ⟨e',List.mem_cons_of_mem _ h1,h2,h3⟩
theorem before_go: ∀(l:List Oper) (j:Nat) (acc:Array Nat),ops.toList.drop j=l→acc.size=j→(∀(k m i:Nat),acc[k]? =some m→m.testBit i=true→Bef ops i k)→
 ∀(k m i:Nat),(l.foldl (fun acc o=>acc.push (o.after.foldl (fun s e=>if Region.binds .any e then s ||| 2 ^ e.on ||| acc.getD e.on 0 else s) 0)) acc)[k]? =some m→m.testBit i=true→Bef ops i k
 |[],j,acc,hl,hs,h,k,m,i,hk,hb=>h k m i hk hb
 |o::l,j,acc,hl,hs,h,k,m,i,hk,hb=>by
  have hj:ops[j]? =some o:=by
   have:(ops.toList.drop j)[0]? =some o:=by rw[hl];rfl
   simpa using this
  have hl':ops.toList.drop (j+1)=l:=by
   have:(ops.toList.drop j).drop 1=l:=by rw[hl];rfl
   rwa [List.drop_drop] at this
  rw[List.foldl_cons] at hk
  refine before_go l (j+1) _ hl' (by simp[hs]) (fun k m i hk hb=>?_) k m i hk hb
  rw[Array.getElem?_push] at hk
  split at hk
  ·rename_i hkj
   rw[hs] at hkj;subst hkj
   obtain rfl:=Option.some.inj hk
   rw[←Array.foldl_toList] at hb
   rcases foldEdges _ _ hb with h1|⟨e,h1,h2,h3⟩
   ·simp at h1
   ·rcases h3 with rfl|h3
    ·exact .edge hj (by simpa using h1) h2
    ·refine .trans hj (by simpa using h1) h2 ?_
     rw[Array.getD_eq_getD_getElem?] at h3
     cases ha:acc[e.on]? with
     |none=>rw[ha] at h3;simp at h3
     |some m'=>rw[ha] at h3;exact h e.on m' i ha h3
  ·exact h k m i hk hb
theorem before_bef{k m i:Nat}(h:(Region.before ops).toList[k]? =some m)(hb:m.testBit i=true):Bef ops i k:=by
 rw[Array.getElem?_toList] at h
 unfold Region.before at h
 rw[←Array.foldl_toList] at h
 exact before_go ops.toList 0 #[] rfl rfl (by simp) k m i h hb
theorem pairsOk_spec{y:OI}: ∀(l:List OI) (s:Nat),pairsOk y s l=true→ ∀i x,l[i]? =some x→pairOk (s+i) x y=true
 |[],s,_,i,x,hx=>by simp at hx
 |z::l,s,h,i,x,hx=>by
  simp only[pairsOk] at h
  obtain ⟨h1,h2⟩:=chk_iff.1 h
  cases i with
  |zero=>simp at hx;subst hx;exact h1
  |succ i=>
   have:=pairsOk_spec l (s+1) h2 i x (by simpa using hx)
   rwa [show s+1+i=s+(i+1) by omega] at this
theorem allPairs_spec: ∀(l before:List OI),allPairs before l=true→ ∀i j x y,i<j→before.length≤j→(before++l)[i]? =some x→(before++l)[j]? =some y→pairOk i x y=true
 |[],before,_,i,j,x,y,hij,hb,hx,hy=>by
  have:=(List.getElem?_eq_some_iff.1 hy).1
  simp at this;omega
 |z::l,before,h,i,j,x,y,hij,hb,hx,hy=>by
  simp only[allPairs] at h
  obtain ⟨h1,h2⟩:=chk_iff.1 h
  rw[lapp_eq] at h2
  by_cases hj:j=before.length
  ·subst hj
   rw[List.getElem?_append_right (Nat.le_refl _)] at hy
   simp at hy;subst hy
   rw[List.getElem?_append_left hij] at hx
   have:=pairsOk_spec before 0 h1 i x hx
   simpa using this
  ·refine allPairs_spec l (before++[z]) h2 i j x y hij (by simp;omega) ?_ ?_
   ·simpa using hx
   ·simpa using hy
theorem ois_get: ∀(l:List Oper) (ms:List Nat) (i:Nat) (o:Oper) (m:Nat),l[i]? =some o→ms[i]? =some m→(ois ops l ms)[i]? =some (oiOf ops o m)
 |[],_,i,_,_,h,_=>by simp at h
 |_::_,[],i,_,_,_,h=>by simp at h
 |o::l,m::ms,i,o',m',h,h'=>by
  simp only[ois]
  cases i with
  |zero=>simp at h h' ⊢;rw[h,h']
  |succ i=>simp at h h' ⊢;exact ois_get l ms i o' m' h h'
theorem edgesOk_spec: ∀(l:List Oper) (s:Nat),edgesOk s l=true→ ∀i o,l[i]? =some o→ ∀e∈o.after,Region.binds .any e=true→e.on<s+i
 |[],s,_,i,o,h=>by simp at h
 |p::l,s,h,i,o,ho=>fun e he hb=>by
  simp only[edgesOk] at h
  obtain ⟨h1,h2⟩:=chk_iff.1 h
  cases i with
  |zero=>
   simp at ho;subst ho
   have:=(lall_iff _ _).1 h1 e (by simpa using he)
   unfold edgeOk at this
   rw[bc_eq,if_pos hb] at this
   simpa using blt_iff.1 this
  |succ i=>
   have:=edgesOk_spec l (s+1) h2 i o (by simpa using ho) e he hb
   omega
theorem nz_disj{a b t:Nat}(h:nz (Nat.land a b)=true)(ha:a.testBit t=true):b.testBit t=false:=by
 have h0:a &&& b=0:=beq_iff.1 h
 have:=congrArg (fun n=>n.testBit t) h0
 simp only[Nat.testBit_and,ha,Nat.zero_testBit,Bool.true_and] at this
 exact this
theorem bitD_self(t:Nat):(bitD (some t)).testBit t=true:=by
 show (1 <<< t).testBit t=true
 rw[Nat.one_shiftLeft,Nat.testBit_two_pow];simp
theorem bitO_mono{x:Operand}{m t:Nat}(h:m.testBit t=true):(bitO x m).testBit t=true:=by
 unfold bitO
 split
 ·rw[testBit_or_shift,h];rfl
 ·exact h
theorem bitsO_mem{t:Nat}: ∀ {l:List Operand},Operand.tmp t∈l→(bitsO l).testBit t=true
 |[],h=>by simp at h
 |x::l,h=>by
  have hx:bitsO (x::l)=bitO x (bitsO l):=rfl
  rw[hx]
  rcases List.mem_cons.1 h with rfl|h
  ·show (Nat.lor (bitsO l) (Nat.shiftLeft 1 t)).testBit t=true
   rw[testBit_or_shift];simp
  ·exact bitO_mono (bitsO_mem h)
theorem looks_oper{o:Oper}{t:Nat}(h:Operand.tmp t∈o.op.operands):(looks ops o).testBit t=true:=by
 unfold looks
 show (bitsO o.op.operands.toList ||| _).testBit t=true
 rw[Nat.testBit_or,bitsO_mem (by simpa using h)];rfl
theorem looks_guard{o:Oper}{t:Nat}{want:Bool}(h:guardS ops o=some (some (t,want))):(looks ops o).testBit t=true:=by
 unfold guardS at h
 split at h
 ·cases h
 ·rename_i j want' hg
  split at h
  ·rename_i u hu
   simp only[Option.some.injEq,Prod.mk.injEq] at h
   obtain ⟨rfl,rfl⟩:=h
   unfold looks
   rw[hg]
   simp only[hu]
   show (_ ||| bitD (some u)).testBit u=true
   rw[Nat.testBit_or,bitD_self];simp
  ·cases h
theorem Bef.lt(hed: ∀(i:Nat) (o:Oper),ops[i]? =some o→ ∀e∈o.after,Region.binds .any e=true→e.on<i){i k:Nat}(h:Bef ops i k):i<k:=by
 induction h with
 |edge h1 h2 h3=>exact hed _ _ h1 _ h2 h3
 |trans h1 h2 h3 _ ih=>exact Nat.lt_trans ih (hed _ _ h1 _ h2 h3)
theorem hasMk_spec{m bj:Nat}: ∀(l:List Oper) (s:Nat),hasMk m bj s l=true→ ∃(i:Nat) (o:Oper),l[i]? =some o∧bj.testBit (s+i)=true∧isMk m o=true
 |[],s,h=>by cases h
 |o::l,s,h=>by
  unfold hasMk at h
  rw[bc_eq] at h
  split at h
  ·rename_i h1
   obtain ⟨h2,h3⟩:=chk_iff.1 h1
   exact ⟨0,o,rfl,h2,h3⟩
  ·obtain ⟨i,o',h1,h2,h3⟩:=hasMk_spec l (s+1) h
   exact ⟨i+1,o',h1,by rw[show s+(i+1)=s+1+i by omega];exact h2,h3⟩
theorem litAll_spec{j m:Nat}{t:TypeId}: ∀(l:List Oper) (bs:List Nat),litAll ops j t m l bs=true→ ∀(i:Nat) (o:Oper) (b:Nat),l[i]? =some o→bs[i]? =some b→litPair ops j t m o b=true
 |[],_,_,i,o,b,h,_=>by simp at h
 |_::_,[],_,i,o,b,_,h=>by simp at h
 |o'::l,b'::bs,h,i,o,b,ho,hb=>by
  unfold litAll at h
  obtain ⟨h1,h2⟩:=chk_iff.1 h
  cases i with
  |zero=>simp at ho hb;subst ho hb;exact h1
  |succ i=>exact litAll_spec l bs h2 i o b (by simpa using ho) (by simpa using hb)
theorem litOk_spec{bef:List Nat}: ∀(l:List Oper) (bs:List Nat) (s:Nat),litOk ops bef s l bs=true→ ∀(i:Nat) (o:Oper) (b:Nat),l[i]? =some o→bs[i]? =some b→litOk1 ops bef (s+i) o b=true
 |[],_,_,_,i,o,b,h,_=>by simp at h
 |_::_,[],_,_,i,o,b,_,h=>by simp at h
 |o'::l,b'::bs,s,h,i,o,b,ho,hb=>by
  unfold litOk at h
  obtain ⟨h1,h2⟩:=chk_iff.1 h
  cases i with
  |zero=>simp at ho hb;subst ho hb;exact h1
  |succ i=>
   have:=litOk_spec l bs (s+1) h2 i o b (by simpa using ho) (by simpa using hb)
   rwa [show s+1+i=s+(i+1) by omega] at this
structure Drawn (ops:Array Oper) (bl:List Nat):Prop where
 len:bl.length=ops.size
 bef: ∀(k m i:Nat),bl[k]? =some m→m.testBit i=true→Bef ops i k
 edge: ∀(i:Nat) (o:Oper),ops[i]? =some o→ ∀e∈o.after,Region.binds .any e=true→e.on<i
 dst: ∀(i j:Nat) (oi oj:Oper) (t:Nat),i<j→ops[i]? =some oi→ops[j]? =some oj→oi.dst=some t→oj.dst≠some t
 sep: ∀(i j:Nat) (oi oj:Oper),i<j→ops[i]? =some oi→ops[j]? =some oj→Bef ops i j∨
  ((∀t,oi.dst=some t→(looks ops oj).testBit t=false)∧(∀t,oj.dst=some t→(looks ops oi).testBit t=false))
 ins: ∀(j:Nat) (o:Oper),ops[j]? =some o→anIns o=true→ ∃t m,isIns m o=true∧insOk t m o=true∧(∃s os,ops[s]? =some os∧Bef ops s j∧isMk m os=true)∧
  ∀(i:Nat) (oi:Oper),ops[i]? =some oi→(anIns oi=true→isIns m oi=true∧insOk t m oi=true)∧(anIns oi=false→(looks ops oi).testBit m=true→Bef ops j i)
theorem drawnOk_spec(h:drawnOk ops (Region.before ops).toList=true):Drawn ops (Region.before ops).toList:=by
 unfold drawnOk at h
 obtain ⟨h1,h2⟩:=chk_iff.1 h
 obtain ⟨h3,h4⟩:=chk_iff.1 h2
 obtain ⟨h4,h5⟩:=chk_iff.1 h4
 have hlen:(Region.before ops).toList.length=ops.size:=by
  have:=beq_iff.1 h3
  rw[llen_eq,llen_eq] at this
  simpa using this
 have pair: ∀i j oi oj,i<j→ops[i]? =some oi→ops[j]? =some oj→ ∃mi mj,(Region.before ops).toList[j]? =some mj∧pairOk i (oiOf ops oi mi) (oiOf ops oj mj)=true:=fun i j oi oj hij hi hj=>by
  have hjl:=getElem?_lt hj
  obtain ⟨mi,hmi⟩: ∃m,(Region.before ops).toList[i]? =some m:=⟨_,List.getElem?_eq_getElem (by omega)⟩
  obtain ⟨mj,hmj⟩: ∃m,(Region.before ops).toList[j]? =some m:=⟨_,List.getElem?_eq_getElem (by omega)⟩
  exact ⟨mi,mj,hmj,allPairs_spec _ [] h4 i j _ _ hij (by simp) (by simpa using ois_get (ops:=ops) ops.toList _ i oi mi (by simpa using hi) hmi) (by simpa using ois_get (ops:=ops) ops.toList _ j oj mj (by simpa using hj) hmj)⟩
 refine ⟨hlen,fun k m i hk hb=>before_bef hk hb,fun i o ho e he hb=>?_,fun i j oi oj t hij hi hj ht hj'=>?_,fun i j oi oj hij hi hj=>?_,fun j o hj hins=>?_⟩
 ·have:=edgesOk_spec ops.toList 0 h1 i o (by simpa using ho) e he hb
  omega
 ·obtain ⟨mi,mj,_,hp⟩:=pair i j oi oj hij hi hj
  unfold pairOk at hp
  obtain ⟨p1,_⟩:=chk_iff.1 hp
  have:=nz_disj (t:=t) p1 (by simp only[oiOf,ht];exact bitD_self t)
  simp only[oiOf,hj',bitD_self] at this
  cases this
 ·obtain ⟨mi,mj,hmj,hp⟩:=pair i j oi oj hij hi hj
  unfold pairOk at hp
  obtain ⟨_,p2⟩:=chk_iff.1 hp
  rw[bc_eq] at p2
  split at p2
  ·rename_i hb;exact .inl (before_bef hmj hb)
  ·obtain ⟨p3,p4⟩:=chk_iff.1 p2
   exact .inr ⟨fun t ht=>nz_disj p3 (by simp only[oiOf,ht];exact bitD_self t),fun t ht=>nz_disj p4 (by simp only[oiOf,ht];exact bitD_self t)⟩
 ·have hjl:=getElem?_lt hj
  have bitAt: ∀i,i<ops.size→ ∃m,(Region.before ops).toList[i]? =some m:=fun i hi=>⟨_,List.getElem?_eq_getElem (by omega)⟩
  obtain ⟨mj,hmj⟩:=bitAt j hjl
  have hl:=litOk_spec _ _ 0 h5 j o mj (by simpa using hj) hmj
  rw[Nat.zero_add] at hl
  unfold litOk1 at hl
  split at hl
  ·rename_i t m k v ho
   obtain ⟨l1,l2⟩:=chk_iff.1 hl
   have all: ∀(i:Nat) (oi:Oper),ops[i]? =some oi→(anIns oi=true→isIns m oi=true∧insOk t m oi=true)∧(anIns oi=false→(looks ops oi).testBit m=true→Bef ops j i):=fun i oi hi=>by
    obtain ⟨mi,hmi⟩:=bitAt i (getElem?_lt hi)
    have:=litAll_spec _ _ l2 i oi mi (by simpa using hi) hmi
    unfold litPair at this
    rw[bc_eq] at this
    refine ⟨fun ha=>?_,fun ha hlk=>?_⟩
    ·rw[if_pos ha] at this;exact chk_iff.1 this
    ·rw[if_neg (by rw[ha];simp),bc_eq,if_pos hlk] at this
     exact before_bef hmi this
   obtain ⟨i1,i2⟩:=(all j o hj).1 hins
   obtain ⟨s,os,s1,s2,s3⟩:=hasMk_spec _ _ l1
   rw[Nat.zero_add] at s2
   exact ⟨t,m,i1,i2,⟨s,os,by simpa using s1,before_bef hmj s2,s3⟩,all⟩
  ·cases hl
  ·rename_i hno1 hno2
   unfold anIns at hins
   split at hins
   ·rename_i t m k v ho
    exact absurd ho (hno2 _ _ _ _)
   ·cases hins
end order
section sim
variable {pr:Nat→Prop} {w0 w w':World} {σ τ:Sg} {H H':Hp}
noncomputable def res(τ:Sg)(H:Hp):Sg:=fun id=>if isFree (hget H id) then none else τ id
theorem res_some{id:Nat}{e:En}:res τ H id=some e↔hget H id≠ .free∧τ id=some e:=by
 unfold res
 by_cases h:hget H id= .free
 ·rw[if_pos (isFree_iff.2 h)];simp[h]
 ·rw[if_neg (fun x=>h (isFree_iff.1 x))];simp[h]
theorem res_none{id:Nat}:res τ H id=none↔hget H id= .free∨τ id=none:=by
 unfold res
 by_cases h:hget H id= .free
 ·rw[if_pos (isFree_iff.2 h)];simp[h]
 ·rw[if_neg (fun x=>h (isFree_iff.1 x))];simp[h]
theorem res_at{id:Nat}(h:bnot (isFree (hget H id))=true):res τ H id=τ id:=by
 unfold res
 rw[if_neg]
 intro hf;rw[hf] at h;cases h
theorem res_sub:(res τ H).le τ:=fun _id _e he=>(res_some.1 he).2
theorem res_le(h:Stays H H'):(res τ H).le (res τ H'):=fun id e he=>by
 obtain ⟨h1,h2⟩:=res_some.1 he
 exact res_some.2 ⟨h id h1,h2⟩
theorem Sim.res_eq(h:Sim pr w0 σ H w):res σ H=σ:=funext fun id=>by
 cases hs:σ id with
 |none=>exact res_none.2 (.inr hs)
 |some e=>exact res_some.2 ⟨h.notFree hs,hs⟩
theorem Sim.rebase(h:Sim pr w0 σ H w){q:Nat→Prop}(hq: ∀b,q b→b<w.heap.size∧ ∀id e,σ id=some e→e.blk≠b):Sim (fun b=>pr b∨q b) w σ H w where
 size:=Nat.le_refl _
 os:=rfl
 tape:=rfl
 output:=rfl
 glob:=h.glob.mono (fun _=> .inl) fun b hb=>(h.prot b hb).2
 prot:=fun b hb=>⟨hb.elim (fun hb=>Nat.lt_of_lt_of_le (h.prot b hb).1 h.size) (fun hb=>(hq b hb).1),rfl⟩
 dom:=h.dom
 lies:=fun id e he=>⟨(h.lies id e he).1,fun hb=>hb.elim (fun hb=>(h.lies id e he).2 hb) (fun hb=>(hq _ hb).2 id e he rfl)⟩
 inj:=h.inj
theorem Sim.back(h:Sim pr w0 σ H w){q:Nat→Prop}(k:Sim (fun b=>pr b∨q b) w τ H' w'):Sim pr w0 τ H' w' where
 size:=Nat.le_trans h.size k.size
 os:=k.os.trans h.os
 tape:=k.tape.trans h.tape
 output:=k.output.trans h.output
 glob:=h.glob
 prot:=fun b hb=>⟨(h.prot b hb).1,(k.prot b (.inl hb)).2.trans (h.prot b hb).2⟩
 dom:=k.dom
 lies:=fun id e he=>⟨(k.lies id e he).1,fun hb=>(k.lies id e he).2 (.inl hb)⟩
 inj:=k.inj
theorem BR.plain{e:En}{ob:AO}(hp:Plain ob)(hk:w'.heap[e.blk]? =w.heap[e.blk]?)(k:BR σ w e ob):BR σ w' e ob:=by
 cases ob with
 |free=>exact hp.elim
 |dead=>exact hp.elim
 |cells el sp c=>obtain ⟨arr,fz,hc⟩:=k;exact ⟨arr,fz,{hc with at_:=hk.trans hc.at_}⟩
 |map es=>obtain ⟨l,cl,h1,h2⟩:=k;exact ⟨l,cl,hk.trans h1,h2⟩
 |umap es=>obtain ⟨l,cl,h1,h2⟩:=k;exact ⟨l,cl,hk.trans h1,h2⟩
 |siter a b c=>exact ⟨k.1,hk.trans k.2⟩
 |miter m n d=>exact hp.elim
 |mitv m n se=>exact hp.elim
 |loop l=>exact hp.elim
mutual
theorem conc_inHp: ∀(v:AV) (x:Value),inHp H v=true→conc τ v=some x→conc (res τ H) v=some x
 | .bool _,_,_,hx=>by simpa[conc] using hx
 | .int _ _,_,_,hx=>by simpa[conc] using hx
 | .str _ _,_,_,hx=>by simpa[conc] using hx
 | .nilp,_,_,hx=>by simpa[conc] using hx
 | .ptr b o,x,h,hx=>by simp only[conc] at hx ⊢;rwa [res_at (by simpa[inHp] using h)]
 | .nils,_,_,hx=>by simpa[conc] using hx
 | .sl b o l c,x,h,hx=>by simp only[conc] at hx ⊢;rwa [res_at (by simpa[inHp] using h)]
 | .su b o l z,x,h,hx=>by simp only[conc] at hx ⊢;rwa [res_at (by simpa[inHp] using h)]
 | .se b o l z,x,h,hx=>by simp only[conc] at hx ⊢;rwa [res_at (by simpa[inHp] using h)]
 | .opq b l,x,h,hx=>by simp only[conc] at hx ⊢;rwa [res_at (by simpa[inHp] using h)]
 | .nilm,_,_,hx=>by simpa[conc] using hx
 | .mp b,x,h,hx=>by simp only[conc] at hx ⊢;rwa [res_at (by simpa[inHp] using h)]
 | .fn f a c,x,h,hx=>by
   have hh:(∀l,f= .yield l→bnot (isFree (hget H l))=true)∧inHps H a=true∧inHps H c=true:=by
    simp only[inHp] at h
    split at h
    ·obtain ⟨h1,h2⟩:=chk_iff.1 h
     obtain ⟨h2,h3⟩:=chk_iff.1 h2
     exact ⟨fun l hl=>by injection hl with hl;subst hl;exact h1,h2,h3⟩
    ·rename_i hno
     obtain ⟨h2,h3⟩:=chk_iff.1 h
     exact ⟨fun l hl=>absurd hl (hno l),h2,h3⟩
   simp only[conc] at hx ⊢
   have hf:concF (res τ H) f=concF τ f:=by
    cases f <;> simp only[concF]
    rename_i l
    rw[res_at (hh.1 l rfl)]
   rw[hf]
   cases ha:concL τ a with
   |none=>rw[ha] at hx;cases hq:concF τ f <;> rw[hq] at hx <;> cases hx
   |some y=>cases hc:concL τ c with
    |none=>rw[ha,hc] at hx;cases hq:concF τ f <;> rw[hq] at hx <;> cases hx
    |some z=>
     rw[concL_inHp a y hh.2.1 ha,concL_inHp c z hh.2.2 hc]
     rwa [ha,hc] at hx
 | .nilf,_,_,hx=>by simpa[conc] using hx
 | .ifc t v,x,h,hx=>by
   simp only[conc] at hx ⊢
   cases hs:conc τ v with
   |none=>simp[hs] at hx
   |some e=>rw[conc_inHp v e (by simpa[inHp] using h) hs];rwa [hs] at hx
 | .nili,_,_,hx=>by simpa[conc] using hx
 | .agg l,x,h,hx=>by
   simp only[conc] at hx ⊢
   cases hs:concL τ l with
   |none=>simp[hs] at hx
   |some e=>rw[concL_inHp l e (by simpa[inHp] using h) hs];rwa [hs] at hx
 | .tup l,x,h,hx=>by
   simp only[conc] at hx ⊢
   cases hs:concL τ l with
   |none=>simp[hs] at hx
   |some e=>rw[concL_inHp l e (by simpa[inHp] using h) hs];rwa [hs] at hx
theorem concL_inHp: ∀(l:List AV) (x:List Value),inHps H l=true→concL τ l=some x→concL (res τ H) l=some x
 |[],_,_,hx=>by simpa[concL] using hx
 |v::l,x,h,hx=>by
  simp only[inHps] at h
  obtain ⟨h1,h2⟩:=chk_iff.1 h
  simp only[concL] at hx ⊢
  cases ha:conc τ v with
  |none=>rw[ha] at hx;cases hx
  |some y=>cases hc:concL τ l with
   |none=>rw[ha,hc] at hx;cases hx
   |some z=>
    rw[conc_inHp v y h1 ha,concL_inHp l z h2 hc]
    rwa [ha,hc] at hx
end
end sim
section log
variable {P:Program} {ops:Array Oper} {bl:List Nat} {F:Fs} {C:Ctx} {W0:Wd} {H0:Hp} {L:Lg}
theorem SameH.stays{H H':Hp}(h:SameH H H'):Stays H H':=fun id hid=>by rw[h id];exact hid
theorem AddB.stays{H H':Hp}{b:Nat}{ob:AO}(h:AddB H b ob H')(hob:ob≠ .free):Stays H H':=fun id hid=>by
 by_cases hb:id=b
 ·subst hb;rw[h.1];exact hob
 ·rw[h.2 id hb];exact hid
theorem EntOk.stays{o:Oper}{W:Wd}{H H':Hp}{v:AV}{k:Kd}(h:EntOk P ops o W H v H' k):Stays H H':=by
 cases k with
 |skip=>exact h.1.stays
 |pure=>exact h.1.stays
 |read b=>exact h.1.stays
 |make ob b vf=>exact h.2.2.1.stays h.2.1.ne
 |lit b=>exact h.2.1.stays
 |fill last b d key x es=>
  have:=h.2.1
  cases last with
  |true=>exact AddB.stays this (by simp)
  |false=>exact SameH.stays this
 |store b=>obtain ⟨_,_,el,sp,c,c',h1,h2,_⟩:=h;exact h2.stays (by simp)
 |act=>exact h.2.1
def Kd.wr(c:Nat):Kd→Prop
 | .store b=>b=c
 | .act=>True
 |_=>False
theorem EntOk.keep{o:Oper}{W:Wd}{H H':Hp}{v:AV}{k:Kd}{c:Nat}(h:EntOk P ops o W H v H' k)(hk: ¬k.wr c)(hc:hget H c≠ .free):hget H' c=hget H c:=by
 cases k with
 |skip=>exact h.1 c
 |pure=>exact h.1 c
 |read b=>exact h.1 c
 |make ob b vf=>exact h.2.2.1.2 c (fun e=>hc (e▸h.1))
 |lit b=>exact h.2.1 c
 |fill last b d key x es=>
  have h2:=h.2.1
  cases last with
  |true=>exact (show AddB _ _ _ _ from h2).2 c (fun e=>hc (e▸h.1))
  |false=>exact (show SameH H H' from h2) c
 |store b=>obtain ⟨_,_,el,sp,c0,c',h1,h2,_⟩:=h;exact h2.2 c (fun e=>hk e.symm)
 |act=>exact (hk trivial).elim
variable (hL:LgOk P ops bl F C 0 W0 H0 L)
include hL
theorem LgOk.at{j:Nat}(hj:j<ops.size): ∃o,ops[j]? =some o∧L.W (j+1)=updW (L.W j) o.dst (L.V j)∧EntOk P ops o (L.W j) (L.H j) (L.V j) (L.H (j+1)) (L.K j):=
 ⟨ops[j],Array.getElem?_eq_getElem hj,hL.ent j _ (Nat.zero_le _) (Array.getElem?_eq_getElem hj)⟩
theorem LgOk.stays{i j:Nat}(hij:i≤j)(hj:j≤ops.size):Stays (L.H i) (L.H j):=by
 induction j with
 |zero=>obtain rfl:i=0:=by omega
        exact Stays.refl _
 |succ j ih=>
  by_cases h:i=j+1
  ·subst h;exact Stays.refl _
  ·obtain ⟨o,_,_,hE⟩:=hL.at (j:=j) (by omega)
   exact (ih (by omega) (by omega)).trans hE.stays
theorem LgOk.free{i j:Nat}(hij:i≤j)(hj:j≤ops.size){c:Nat}(hc:hget (L.H j) c= .free):hget (L.H i) c= .free:=by
 by_cases h:hget (L.H i) c= .free
 ·exact h
 ·exact absurd hc (hL.stays hij hj c h)
theorem LgOk.keep{i j:Nat}{c:Nat}(hij:i≤j)(hj:j≤ops.size)(hn: ∀k,i≤k→k<j→ ¬(L.K k).wr c)(hc:hget (L.H i) c≠ .free):hget (L.H j) c=hget (L.H i) c:=by
 induction j with
 |zero=>obtain rfl:i=0:=by omega
        rfl
 |succ j ih=>
  by_cases h:i=j+1
  ·subst h;rfl
  ·obtain ⟨o,_,_,hE⟩:=hL.at (j:=j) (by omega)
   have h1:=ih (by omega) (by omega) (fun k h1 h2=>hn k h1 (by omega))
   rw[hE.keep (hn j (by omega) (by omega)) (by rw[h1];exact hc),h1]
theorem LgOk.W_cases{i:Nat}(hi:i≤ops.size)(t:Nat):(L.W i t=W0 t∧ ∀k o,k<i→ops[k]? =some o→o.dst≠some t)∨ ∃k o,k<i∧ops[k]? =some o∧o.dst=some t∧L.W i t=some (L.V k):=by
 induction i with
 |zero=>exact .inl ⟨by rw[hL.atW],fun k o hk=>absurd hk (Nat.not_lt_zero _)⟩
 |succ i ih=>
  obtain ⟨o,ho,hW,_⟩:=hL.at (j:=i) (by omega)
  rw[hW]
  simp only[updW]
  by_cases hd:o.dst=some t
  ·rw[if_pos hd];exact .inr ⟨i,o,by omega,ho,hd,rfl⟩
  ·rw[if_neg hd]
   rcases ih (by omega) with ⟨h1,h2⟩|⟨k,o',h1,h2,h3,h4⟩
   ·refine .inl ⟨h1,fun k o' hk ho'=>?_⟩
    by_cases hki:k=i
    ·subst hki;rw[ho] at ho';obtain rfl:=Option.some.inj ho';exact hd
    ·exact h2 k o' (by omega) ho'
   ·exact .inr ⟨k,o',by omega,h2,h3,h4⟩
def Kd.mk(b:Nat)(ob:AO):Kd→Prop
 | .make ob' b' _=>ob'=ob∧b'=b
 | .fill last b' _ key x es=>last=true∧b'=b∧ob= .umap (es++[(key,x)])
 |_=>False
theorem LgOk.mks{k:Nat}{b:Nat}{ob:AO}(hk:k<ops.size)(h:(L.K k).mk b ob):Plain ob∧hget (L.H k) b= .free∧hget (L.H (k+1)) b=ob:=by
 obtain ⟨o,_,_,hE⟩:=hL.at hk
 cases hkk:L.K k with
 |make ob' b' vf=>
  rw[hkk] at h hE
  obtain ⟨rfl,rfl⟩:=h
  exact ⟨hE.2.1,hE.1,hE.2.2.1.1⟩
 |fill last b' d key x es=>
  rw[hkk] at h hE
  obtain ⟨rfl,rfl,rfl⟩:=h
  exact ⟨trivial,hE.1,(show AddB _ _ _ _ from hE.2.1).1⟩
 |_=>rw[hkk] at h;exact h.elim
theorem LgOk.mkId{k k':Nat}{b:Nat}{ob ob':AO}(hk:k<ops.size)(hk':k'<ops.size)(h:(L.K k).mk b ob)(h':(L.K k').mk b ob'):k=k':=by
 have key: ∀ {k k':Nat} {ob ob':AO},k<k'→k'<ops.size→(L.K k).mk b ob→(L.K k').mk b ob'→False:=fun {k k' ob ob'} hlt hk' h h'=>by
  obtain ⟨h1,h2,h3⟩:=hL.mks (by omega) h
  obtain ⟨h4,h5,h6⟩:=hL.mks hk' h'
  exact hL.stays (i:=k+1) (j:=k') (by omega) (by omega) b (by rw[h3];exact h1.ne) h5
 rcases Nat.lt_trichotomy k k' with h1|h1|h1
 ·exact (key h1 hk' h h').elim
 ·exact h1
 ·exact (key h1 hk h' h).elim
omit hL in
theorem firstWr(L:Lg)(c p:Nat): ∀(d:Nat),(∀j,p≤j→j<p+d→ ¬(L.K j).wr c)∨ ∃j,p≤j∧j<p+d∧(L.K j).wr c∧ ∀j',p≤j'→j'<j→ ¬(L.K j').wr c
 |0=> .inl fun j h1 h2=>by omega
 |d+1=>by
  rcases firstWr L c p d with h|⟨j,h1,h2,h3,h4⟩
  ·by_cases hk:(L.K (p+d)).wr c
   ·exact .inr ⟨p+d,by omega,by omega,hk,fun j' h1 h2=>h j' h1 (by omega)⟩
   ·refine .inl fun j h1 h2=>?_
    by_cases hj:j=p+d
    ·subst hj;exact hk
    ·exact h j h1 (by omega)
  ·exact .inr ⟨j,h1,by omega,h3,h4⟩
omit hL in
theorem lastWr(L:Lg)(c p:Nat): ∀(d:Nat),(∀j,p≤j→j<p+d→ ¬(L.K j).wr c)∨ ∃j,p≤j∧j<p+d∧(L.K j).wr c∧ ∀j',j<j'→j'<p+d→ ¬(L.K j').wr c
 |0=> .inl fun j h1 h2=>by omega
 |d+1=>by
  by_cases hk:(L.K (p+d)).wr c
  ·exact .inr ⟨p+d,by omega,by omega,hk,fun j' h1 h2=>by omega⟩
  ·rcases lastWr L c p d with h|⟨j,h1,h2,h3,h4⟩
   ·refine .inl fun j h1 h2=>?_
    by_cases hj:j=p+d
    ·subst hj;exact hk
    ·exact h j h1 (by omega)
   ·refine .inr ⟨j,h1,by omega,h3,fun j' h5 h6=>?_⟩
    by_cases hj:j'=p+d
    ·subst hj;exact hk
    ·exact h4 j' h5 (by omega)
omit hL in
theorem Kd.wr_acts{c:Nat}{k:Kd}(h:k.wr c):k.acts:=by cases k <;> first|exact trivial|exact h.elim
end log
end Go.Ev
namespace Go.Ev
section lit
variable {P:Program} {ops:Array Oper} {bl:List Nat} {F:Fs} {C:Ctx} {W0:Wd} {H0:Hp} {L:Lg}
def Kd.isFill:Kd→Prop
 | .fill _ _ _ _ _ _=>True
 |_=>False
theorem Kd.isFill_iff{k:Kd}:k.isFill↔ ∃last b d key x es,k= .fill last b d key x es:=by
 cases k <;> simp[Kd.isFill]
theorem isIns_an{m:Nat}{o:Oper}(h:isIns m o=true):anIns o=true:=by
 unfold isIns at h
 split at h
 ·rename_i ho;simp[anIns,ho]
 ·cases h
theorem insOk_guard{t:TypeId}{m:Nat}{o:Oper}(h:insOk t m o=true):o.guard=none:=by
 unfold insOk at h
 split at h
 ·rename_i hg _;exact hg
 ·cases h
structure LitD (ops:Array Oper) (L:Lg) (s m b f:Nat) (t:TypeId):Prop where
 slt:s<ops.size
 ks:L.K s= .lit b
 dst: ∃os,ops[s]? =some os∧os.dst=some m∧os.guard=none
 kf: ∃d key x es,L.K f= .fill true b d key x es
 flt:f<ops.size
 fills: ∀j last b' d key x es,j<ops.size→L.K j= .fill last b' d key x es→b'=b∧j≤f∧(last=true→j=f)∧Bef ops s j∧es=((List.range j).flatMap fun q=>(L.K q).ent)∧ ∃o,ops[j]? =some o∧isIns m o=true∧insOk t m o=true
 only: ∀s' b',s'<ops.size→L.K s'= .lit b'→s'=s
 look: ∀i oi,ops[i]? =some oi→(looks ops oi).testBit m=true→(L.K i).isFill∨ ∀j,j<ops.size→(L.K j).isFill→Bef ops j i
variable (hL:LgOk P ops bl F C 0 W0 H0 L) (hD:Drawn ops bl) (hC:C.ms=none)
include hL hD hC
theorem litD_of_fill{j:Nat}(hj:j<ops.size)(hf:(L.K j).isFill): ∃s m b f t,LitD ops L s m b f t:=by
 obtain ⟨last,b,d,key,x,es,hk⟩:=Kd.isFill_iff.1 hf
 obtain ⟨o,ho,_,hE⟩:=hL.at hj
 rw[hk] at hE
 obtain ⟨t0,m0,kx,vx,hop,_⟩:=hE.2.2.2.2.1.form
 have han:anIns o=true:=by simp[anIns,hop]
 obtain ⟨t,m,h1,h2,⟨s,os,s1,s2,s3⟩,hall⟩:=hD.ins j o ho han
 have hsj:=s2.lt hD.edge
 have hmk:os.guard=none∧(∃ty,os.op= .makeMap ty none)∧os.dst=some m:=by
  unfold isMk at s3
  split at s3
  ·rename_i g1 g2 g3
   rw[beq_iff.1 s3] at g3
   exact ⟨g1,⟨_,g2⟩,g3⟩
  ·cases s3
 obtain ⟨g1,⟨ty,g2⟩,g3⟩:=hmk
 have hlit:isLit os (ops.toList.drop (s+1))=true:=by
  simp only[isLit,g2,g3]
  refine anyIns_iff.2 ⟨j-(s+1),o,?_,h1⟩
  simp only[List.getElem?_drop,Array.getElem?_toList]
  rw[show s+1+(j-(s+1))=j by omega];exact ho
 obtain ⟨b1,ks⟩:=hL.litK s os (Nat.zero_le _) s1 g1 hlit
 have hss:s<ops.size:=by omega
 obtain ⟨_,huniq⟩:=hL.lit1 s b1 (Nat.zero_le _) hss ks
 have fillAt: ∀j o,ops[j]? =some o→isIns m o=true→(L.K j).isFill:=fun j o ho hi=>by
  obtain ⟨i1,i2⟩:=(hall j o ho).1 (isIns_an hi)
  obtain ⟨_,_,_,_,_,_,e⟩:=hL.insK j o (Nat.zero_le _) ho (insOk_guard i2) (isIns_an hi)
  rw[e];trivial
 have fill0: ∀j last b' d key x es,j<ops.size→L.K j= .fill last b' d key x es→b'=b1∧Bef ops s j∧es=((List.range j).flatMap fun q=>(L.K q).ent)∧ ∃o,ops[j]? =some o∧isIns m o=true∧insOk t m o=true:=fun j last b' d key x es hj hk=>by
  obtain ⟨o,ho,_,hE⟩:=hL.at hj
  rw[hk] at hE
  obtain ⟨t0,m0,kx,vx,hop,_⟩:=hE.2.2.2.2.1.form
  have han:anIns o=true:=by simp[anIns,hop]
  obtain ⟨i1,i2⟩:=(hall j o ho).1 han
  rcases hL.lits j last b' d key x es (Nat.zero_le _) hj hk with ⟨es0,q1,_⟩|⟨_,⟨s',q1,q2,q3⟩,q4⟩
  ·rw[hC] at q1;cases q1
  ·have:=huniq s' b' (Nat.zero_le _) (by omega) q3
   subst this
   rw[ks] at q3
   refine ⟨by injection q3 with q3;exact q3.symm,?_,?_,o,ho,i1,i2⟩
   ·obtain ⟨t',m',p1,p2,⟨s'',os',p3,p4,p5⟩,_⟩:=hD.ins j o ho han
    have hmm:m'=m:=by
     simp only[isIns,hop] at p1 i1
     rw[←beq_iff.1 p1, ←beq_iff.1 i1]
    subst hmm
    have hdst':os'.dst=some m':=by
     unfold isMk at p5
     split at p5
     ·rename_i _ _ g3;rw[beq_iff.1 p5] at g3;exact g3
     ·cases p5
    have:s''=s':=by
     rcases Nat.lt_trichotomy s'' s' with h|h|h
     ·exact absurd g3 (hD.dst _ _ _ _ _ h p3 s1 hdst')
     ·exact h
     ·exact absurd hdst' (hD.dst _ _ _ _ _ h s1 p3 g3)
    subst this
    exact p4
   ·rw[q4,List.range_eq_range'];simp
 have last': ∀(n j:Nat),ops.size-j≤n→j<ops.size→(L.K j).isFill→ ∃f,f<ops.size∧ ∃b d key x es,L.K f= .fill true b d key x es:=by
  intro n
  induction n with
  |zero=>intro j h1 h2;omega
  |succ n ih=>
   intro j h1 h2 h3
   obtain ⟨last,b,d,key,x,es,hk⟩:=Kd.isFill_iff.1 h3
   cases last with
   |true=>exact ⟨j,h2,b,d,key,x,es,hk⟩
   |false=>
    obtain ⟨_,_,_,o,ho,i1,_⟩:=fill0 j _ _ _ _ _ _ h2 hk
    obtain ⟨j',o',l1,l2,l3⟩:=hL.lastL j b d key x es o m (Nat.zero_le _) ho hk i1
    exact ih j' (by omega) (getElem?_lt l2) (fillAt j' o' l2 l3)
 obtain ⟨f,hflt,bf,df,kf,xf,esf,hkf⟩:=last' ops.size j (by omega) hj hf
 obtain ⟨rfl,_,_,of,hof,fi1,fi2⟩:=fill0 f _ _ _ _ _ _ hflt hkf
 have le_f: ∀j,j<ops.size→(L.K j).isFill→j≤f:=fun j hj hf=>by
  obtain ⟨last,b,d,key,x,es,hk⟩:=Kd.isFill_iff.1 hf
  obtain ⟨_,_,_,o,ho,i1,_⟩:=fill0 j _ _ _ _ _ _ hj hk
  rcases Nat.lt_or_ge f j with h|h
  ·have:=hL.lastF f bf df kf xf esf of m (Nat.zero_le _) hof hkf fi1 j o h ho
   rw[i1] at this;cases this
  ·exact h
 refine ⟨s,m,bf,f,t,hss,ks,⟨os,s1,g3,g1⟩,⟨df,kf,xf,esf,hkf⟩,hflt,fun j last b' d key x es hj hk=>?_,fun s' b' hs' hk'=>huniq s' b' (Nat.zero_le _) hs' hk',fun i oi hi hlk=>?_⟩
 ·obtain ⟨q1,q2,q3,o,ho,q4,q5⟩:=fill0 j _ _ _ _ _ _ hj hk
  refine ⟨q1,le_f j hj (by rw[hk];trivial),fun hl=>?_,q2,q3,o,ho,q4,q5⟩
  subst hl
  rcases Nat.lt_or_ge j f with h|h
  ·have:=hL.lastF j b' d key x es o m (Nat.zero_le _) ho hk q4 f of h hof
   rw[fi1] at this;cases this
  ·have:=le_f j hj (by rw[hk];trivial);omega
 ·cases ha:anIns oi with
  |true=>
   obtain ⟨i1,i2⟩:=(hall i oi hi).1 ha
   exact .inl (fillAt i oi hi i1)
  |false=>
   refine .inr fun j' hj' hf'=>?_
   obtain ⟨last',b',d',key',x',es',hk'⟩:=Kd.isFill_iff.1 hf'
   obtain ⟨_,_,_,o',ho',p1,p2⟩:=fill0 j' _ _ _ _ _ _ hj' hk'
   obtain ⟨t',m',p3,p4,_,hall'⟩:=hD.ins j' o' ho' (isIns_an p1)
   have hmm:m'=m:=by
    unfold isIns at p1 p3
    split at p1
    ·rename_i t1 n1 k1 v1 hop'
     rw[hop'] at p3
     rw[←beq_iff.1 p1, ←beq_iff.1 p3]
    ·cases p1
   subst hmm
   exact (hall' i oi hi).2 ha hlk
theorem litD_of_lit{s b:Nat}(hs:s<ops.size)(hk:L.K s= .lit b): ∃m f t,LitD ops L s m b f t:=by
 have ho:=Array.getElem?_eq_getElem hs
 have hl:=hL.litI s _ b (Nat.zero_le _) ho hk
 unfold isLit at hl
 split at hl
 ·rename_i t m hop hdst
  obtain ⟨j,o,h1,h2⟩:=anyIns_iff.1 hl
  simp only[List.getElem?_drop,Array.getElem?_toList] at h1
  obtain ⟨t',m',i1,i2,_,hall⟩:=hD.ins _ o h1 (isIns_an h2)
  obtain ⟨_,_,_,_,_,_,e⟩:=hL.insK _ o (Nat.zero_le _) h1 (insOk_guard i2) (isIns_an h2)
  obtain ⟨s',m'',b',f,t'',hd⟩:=litD_of_fill hL hD hC (getElem?_lt h1) (by rw[e];trivial)
  obtain rfl:=hd.only s b hs hk
  have:=hd.ks
  rw[hk] at this
  injection this with this
  subst this
  exact ⟨_,_,_,hd⟩
 ·cases hl
end lit
end Go.Ev
namespace Go.Ev
section blocks
variable {P:Program} {ops:Array Oper} {bl:List Nat} {F:Fs} {C:Ctx} {W0:Wd} {H0:Hp} {L:Lg}
def Li(listed:Array Bool)(j:Nat):Prop:=listed[j]? =some true
theorem li_set{listed:Array Bool}{i j:Nat}(hi:i<listed.size):Li (listed.setIfInBounds i true) j↔j=i∨Li listed j:=by
 unfold Li
 rw[Array.getElem?_setIfInBounds]
 by_cases h:i=j
 ·subst h;simp[hi]
 ·rw[if_neg h];simp[Ne.symm h]
theorem bef_li{listed:Array Bool}{i k:Nat}(hc: ∀(j:Nat) (o:Oper),ops[j]? =some o→Li listed j→ ∀e∈o.after,Region.binds .any e=true→Li listed e.on)(h:Bef ops i k):
 (∀o,ops[k]? =some o→ ∀e∈o.after,Region.binds .any e=true→Li listed e.on)→Li listed i:=by
 induction h with
 |edge h1 h2 h3=>exact fun h=>h _ h1 _ h2 h3
 |trans h1 h2 h3 _ ih=>exact fun h=>ih fun o ho=>hc _ o ho (h _ h1 _ h2 h3)
variable (ops L) (listed:Array Bool)
def Settled(q id:Nat):Prop:= ∀j,j<ops.size→(L.K j).wr id→hget (L.H j) id≠ .free→(Li listed j↔j<q)
def Good(q id:Nat):Prop:=q≤ops.size∧Settled ops L listed q id∧hget (L.H q) id≠ .free
def Early(id:Nat):Prop:= ∃j,j<ops.size∧L.K j= .act∧ ¬Li listed j∧hget (L.H j) id= .free
def Pend:Prop:= ∃j,j<ops.size∧(L.K j).isFill∧ ¬Li listed j
def Due(σ0:Sg)(H0:Hp)(id:Nat)(ob:AO):Prop:=
 (σ0 id=none∧hget H0 id=ob∧ob≠ .free)∨(∃k vf,k<ops.size∧L.K k= .make ob id vf∧ ¬Li listed k)∨ ∃k,k<ops.size∧(L.K k).isFill∧(L.K k).mk id ob∧Pend ops L listed
structure InvB (σ0:Sg) (H0:Hp) (pr:Nat→Prop) (w0:World) (τ:Sg) (w:World):Prop where
 base:Sim pr w0 (fun _=>none) H0 w
 le:σ0.le τ
 good: ∀id e,τ id=some e→(∃i,Good ops L listed i id)∧e.blk<w.heap.size∧ ¬pr e.blk
 br: ∀id e i,τ id=some e→Good ops L listed i id→BR (res τ (L.H i)) w e (hget (L.H i) id)
 apart: ∀id id' x x',τ id=some x→τ id'=some x'→id≠id'→Early ops L listed id∨((∀i,Good ops L listed i id→hget (L.H i) id≠ .dead)∧ ∀i,Good ops L listed i id'→hget (L.H i) id'≠ .dead)→x.blk≠x'.blk
 early: ∀id e,τ id=some e→Early ops L listed id→ ∃k ob,k<ops.size∧(L.K k).mk id ob∧ ∀i,Good ops L listed i id→hget (L.H i) id=ob
 due: ∀id ob,Due ops L listed σ0 H0 id ob→τ id=none∧(∃i,Good ops L listed i id)∧ ∀i,Good ops L listed i id→hget (L.H i) id=ob
variable {ops L listed}
section rules
variable (hL:LgOk P ops bl F C 0 W0 H0 L)
variable {σ0:Sg} {pr:Nat→Prop} {w0 w w':World} {τ:Sg}
include hL
theorem res_mono{i j:Nat}(hij:i≤j)(hj:j≤ops.size):(res τ (L.H i)).le (res τ (L.H j)):=res_le (hL.stays hij hj)
theorem Good.eq{i j id:Nat}(hi:Good ops L listed i id)(hj:Good ops L listed j id):hget (L.H i) id=hget (L.H j) id:=by
 have key: ∀ {i j:Nat},Good ops L listed i id→Good ops L listed j id→i≤j→hget (L.H i) id=hget (L.H j) id:=fun {i j} hi hj hij=>by
  refine (hL.keep hij hj.1 (fun k h1 h2 hw=>?_) hi.2.2).symm
  have hnf:=hL.stays h1 (by have:=hj.1;omega) id hi.2.2
  have hks:k<ops.size:=by have:=hj.1;omega
  have:=(hi.2.1 k hks hw hnf).1 ((hj.2.1 k hks hw hnf).2 h2)
  omega
 rcases Nat.le_total i j with h|h
 ·exact key hi hj h
 ·exact (key hj hi h).symm
omit hL in
theorem good_list{i:Nat}(hi:i<listed.size){id:Nat}(hn:(L.K i).wr id→hget (L.H i) id= .free){q:Nat}:Good ops L (listed.setIfInBounds i true) q id↔Good ops L listed q id:=by
 have hs:Settled ops L (listed.setIfInBounds i true) q id↔Settled ops L listed q id:=by
  refine forall_congr' fun j=>forall_congr' fun hj=>forall_congr' fun hw=>forall_congr' fun hnf=>?_
  have:j≠i:=fun e=>by subst e;exact hnf (hn hw)
  rw[li_set hi];simp[this]
 unfold Good
 rw[hs]
omit hL in
theorem due_list{i:Nat}(hi:i<listed.size){H0:Hp}{id:Nat}{ob:AO}(h:Due ops L (listed.setIfInBounds i true) σ0 H0 id ob):Due ops L listed σ0 H0 id ob:=by
 rcases h with h|⟨k,vf,h1,h2,h3⟩|⟨k,h1,h2,h3,j,h4,h5,h6⟩
 ·exact .inl h
 ·exact .inr (.inl ⟨k,vf,h1,h2,fun hl=>h3 ((li_set hi).2 (.inr hl))⟩)
 ·exact .inr (.inr ⟨k,h1,h2,h3,j,h4,h5,fun hl=>h6 ((li_set hi).2 (.inr hl))⟩)
omit hL in
theorem early_list{i:Nat}(hi:i<listed.size){id:Nat}(h:Early ops L (listed.setIfInBounds i true) id):Early ops L listed id:=by
 obtain ⟨j,h1,h2,h3,h4⟩:=h
 exact ⟨j,h1,h2,fun hl=>h3 ((li_set hi).2 (.inr hl)),h4⟩
omit hL in
theorem InvB.list(h:InvB ops L listed σ0 H0 pr w0 τ w){i:Nat}(hi:i<listed.size)(hn: ¬(L.K i).acts):InvB ops L (listed.setIfInBounds i true) σ0 H0 pr w0 τ w:=by
 have hg: ∀ {q id:Nat},Good ops L (listed.setIfInBounds i true) q id↔Good ops L listed q id:=good_list hi fun hw=>(hn (Kd.wr_acts hw)).elim
 have ex: ∀ {id:Nat},(∃q,Good ops L listed q id)→ ∃q,Good ops L (listed.setIfInBounds i true) q id:=fun ⟨q,hq⟩=>⟨q,hg.2 hq⟩
 refine ⟨h.base,h.le,fun id e he=>⟨ex (h.good id e he).1,(h.good id e he).2⟩,fun id e q he hq=>h.br id e q he (hg.1 hq),fun id id' x x' h1 h2 h3 h4=>?_,fun id e he hE=>?_,fun id ob hd=>?_⟩
 ·refine h.apart id id' x x' h1 h2 h3 ?_
  rcases h4 with h4|⟨h4,h5⟩
  ·exact .inl (early_list hi h4)
  ·exact .inr ⟨fun q hq=>h4 q (hg.2 hq),fun q hq=>h5 q (hg.2 hq)⟩
 ·obtain ⟨k,ob,k1,k2,k3⟩:=h.early id e he (early_list hi hE)
  exact ⟨k,ob,k1,k2,fun q hq=>k3 q (hg.1 hq)⟩
 ·obtain ⟨h1,h2,h3⟩:=h.due id ob (due_list hi hd)
  exact ⟨h1,ex h2,fun q hq=>h3 q (hg.1 hq)⟩
omit hL in
theorem InvB.world(h:InvB ops L listed σ0 H0 pr w0 τ w)(hb:Sim pr w0 (fun _=>none) H0 w')(hsz:w.heap.size≤w'.heap.size)(hbr: ∀id e i,τ id=some e→BR (res τ (L.H i)) w e (hget (L.H i) id)→BR (res τ (L.H i)) w' e (hget (L.H i) id)):InvB ops L listed σ0 H0 pr w0 τ w':=
 ⟨hb,h.le,fun id e he=>let ⟨h1,h2,h3⟩:=h.good id e he;⟨h1,Nat.lt_of_lt_of_le h2 hsz,h3⟩,fun id e i he hg=>hbr id e i he (h.br id e i he hg),h.apart,h.early,h.due⟩
omit hL in
theorem InvB.more(h:InvB ops L listed σ0 H0 pr w0 τ w)(m:More w w'):InvB ops L listed σ0 H0 pr w0 τ w':=h.world (h.base.more m) m.size fun _ _ _ _ hb=>hb.more m
omit hL in
theorem BR.away{σ:Sg}{e:En}{ob:AO}{g:Nat}(m:But g w w')(hne:ob≠ .dead→e.blk≠g)(hm: ∀id x,σ id=some x→x.blk≠g∨(∀l c,w.heap[g]? ≠some (.map l c)))(k:BR σ w e ob):BR σ w' e ob:=by
 have keep: ∀ {c:Nat} {x:Obj},c≠g→w.heap[c]? =some x→w'.heap[c]? =some x:=fun hc h=>(m.same _ hc).trans h
 cases ob with
 |free=>exact k
 |dead=>exact k
 |cells el sp c=>obtain ⟨arr,fz,hc⟩:=k;exact ⟨arr,fz,{hc with at_:=keep (hne (by simp)) hc.at_}⟩
 |map es=>obtain ⟨l,cl,h1,h2⟩:=k;exact ⟨l,cl,keep (hne (by simp)) h1,h2⟩
 |umap es=>obtain ⟨l,cl,h1,h2⟩:=k;exact ⟨l,cl,keep (hne (by simp)) h1,h2⟩
 |siter a b c=>exact ⟨k.1,keep (hne (by simp)) k.2⟩
 |miter mm n0 d=>
  obtain ⟨h0,em,l,cl,si,se,st,h1,h2,h3,r⟩:=k
  refine ⟨h0,em,l,cl,si,se,st,h1,keep (hne (by simp)) h2,keep ?_ h3,r⟩
  rcases hm mm em h1 with h4|h4
  ·exact h4
  ·rintro rfl;exact h4 _ _ h3
 |mitv m n se=>obtain ⟨h0,em,h1,h2⟩:=k;exact ⟨h0,em,h1,keep (hne (by simp)) h2⟩
 |loop l=>obtain ⟨r,h1,h2⟩:=k;exact ⟨r,keep (hne (by simp)) h1,h2⟩
theorem InvB.put(h:InvB ops L listed σ0 H0 pr w0 τ w){b k:Nat}{ob:AO}{e:En}(hk:k<ops.size)(hmk:(L.K k).mk b ob)(hb:τ b=none)(hnd: ∀ob', ¬Due ops L listed σ0 H0 b ob')(hg: ∃i,Good ops L listed i b)(hob: ∀i,Good ops L listed i b→hget (L.H i) b=ob)
 (hbr:BR (res τ (L.H k)) w e ob) (hlt:e.blk<w.heap.size) (hpr: ¬pr e.blk) (hap: ∀id x,τ id=some x→x.blk≠e.blk):InvB ops L listed σ0 H0 pr w0 (τ.put b e) w:=by
 have hle:τ.le (τ.put b e):=Sg.le_put τ e hb
 have rle: ∀H:Hp,(res τ H).le (res (τ.put b e) H):=fun H id x hx=>by
  obtain ⟨h1,h2⟩:=res_some.1 hx
  exact res_some.2 ⟨h1,hle id x h2⟩
 have old: ∀ {id:Nat} {x:En},id≠b→(τ.put b e) id=some x→τ id=some x:=fun hne hx=>by rwa [Sg.put_ne τ e hne] at hx
 have self: ∀ {x:En},(τ.put b e) b=some x→x=e:=fun hx=>by rw[Sg.put_self] at hx;exact (Option.some.inj hx).symm
 obtain ⟨hpl,hf,hn⟩:=hL.mks hk hmk
 refine ⟨h.base,Sg.le_trans h.le hle,fun id x hx=>?_,fun id x i hx hi=>?_,fun id id' x x' h1 h2 h3 h4=>?_,fun id x hx hE=>?_,fun id ob' hd=>?_⟩
 ·by_cases hid:id=b
  ·subst hid;obtain rfl:=self hx;exact ⟨hg,hlt,hpr⟩
  ·exact h.good id x (old hid hx)
 ·by_cases hid:id=b
  ·subst hid;obtain rfl:=self hx
   rw[hob i hi]
   have hki:k≤i:=by
    rcases Nat.lt_or_ge i k with h1|h1
    ·exact absurd (hL.free (Nat.le_of_lt h1) (by omega) hf) hi.2.2
    ·exact h1
   exact (hbr.mono (res_mono hL hki hi.1)).mono (rle _)
  ·exact (h.br id x i (old hid hx) hi).mono (rle _)
 ·by_cases hid:id=b
  ·subst hid;obtain rfl:=self h1
   exact (hap id' x' (old (Ne.symm h3) h2)).symm
  ·by_cases hid':id'=b
   ·subst hid';obtain rfl:=self h2
    exact hap id x (old hid h1)
   ·exact h.apart id id' x x' (old hid h1) (old hid' h2) h3 h4
 ·by_cases hid:id=b
  ·subst hid;exact ⟨k,ob,hk,hmk,hob⟩
  ·exact h.early id x (old hid hx) hE
 ·obtain ⟨h1,h2,h3⟩:=h.due id ob' hd
  have hne:id≠b:=fun e'=>by subst e';exact hnd ob' hd
  exact ⟨by rw[Sg.put_ne τ e hne];exact h1,h2,h3⟩
variable (hD:Drawn ops bl)
include hD
theorem acts_order(hc: ∀(j:Nat) (o:Oper),ops[j]? =some o→Li listed j→ ∀e∈o.after,Region.binds .any e=true→Li listed e.on){i:Nat}{o:Oper}(hi:ops[i]? =some o)(hnl: ¬Li listed i)
 (hed: ∀e∈o.after,Region.binds .any e=true→Li listed e.on) (ha:(L.K i).acts) {j:Nat} (hj:j<ops.size) (hji:j≠i) (hb:(L.K j).acts) (hs: ∀p q,L.K i= .store p→L.K j= .store q→p=q):Li listed j↔j<i:=by
 have hil:=getElem?_lt hi
 have bitAt: ∀i,i<ops.size→ ∃m,bl[i]? =some m:=fun i hi=>⟨_,List.getElem?_eq_getElem (by rw[hD.len];exact hi)⟩
 rcases Nat.lt_or_ge j i with h|h
 ·refine ⟨fun _=>h,fun _=>?_⟩
  obtain ⟨m,hm⟩:=bitAt i hil
  rcases hL.two j i m (Nat.zero_le _) h hil hb ha hm with h1|⟨p,q,h1,h2,h3⟩
  ·exact bef_li hc (hD.bef i m j hm h1) fun o' ho'=>by rw[hi] at ho';obtain rfl:=Option.some.inj ho';exact hed
  ·exact absurd (hs q p h2 h1).symm h3
 ·have hlt:i<j:=by omega
  refine ⟨fun hl=>?_,fun h=>by omega⟩
  obtain ⟨m,hm⟩:=bitAt j hj
  rcases hL.two i j m (Nat.zero_le _) hlt hj ha hb hm with h1|⟨p,q,h1,h2,h3⟩
  ·exact absurd (bef_li hc (hD.bef j m i hm h1) fun o' ho'=>hc j o' ho' hl) hnl
  ·exact absurd (hs p q h1 h2) h3
end rules
end blocks
end Go.Ev
namespace Go.Ev
section acts
variable {P:Program} {ops:Array Oper} {bl:List Nat} {F:Fs} {C:Ctx} {W0:Wd} {H0:Hp} {L:Lg} {listed:Array Bool}
variable (hL:LgOk P ops bl F C 0 W0 H0 L) (hD:Drawn ops bl)
variable {σ0:Sg} {pr:Nat→Prop} {w0 w w':World} {τ:Sg}
theorem Sim.none_but{H:Hp}(h:Sim pr w0 (fun _=>none) H w){g:Nat}(m:But g w w')(hg: ¬pr g):Sim pr w0 (fun _=>none) H w' where
 size:=by rw[m.size];exact h.size
 os:=m.os.trans h.os
 tape:=m.tape.trans h.tape
 output:=m.output.trans h.output
 glob:=h.glob
 prot:=fun b hb=>⟨(h.prot b hb).1,(m.same b (fun e=>hg (e▸hb))).trans (h.prot b hb).2⟩
 dom:=fun _ _ h=>by cases h
 lies:=fun _ _ h=>by cases h
 inj:=fun _ _ _ _ h=>by cases h
theorem Sim.none_of{H H':Hp}{σ:Sg}(h:Sim pr w0 σ H w):Sim pr w0 (fun _=>none) H' w where
 size:=h.size
 os:=h.os
 tape:=h.tape
 output:=h.output
 glob:=h.glob
 prot:=h.prot
 dom:=fun _ _ h=>by cases h
 lies:=fun _ _ h=>by cases h
 inj:=fun _ _ _ _ h=>by cases h
include hL hD
theorem good_at(hc: ∀(j:Nat) (o:Oper),ops[j]? =some o→Li listed j→ ∀e∈o.after,Region.binds .any e=true→Li listed e.on){i:Nat}{o:Oper}(hi:ops[i]? =some o)(hnl: ¬Li listed i)
 (hed: ∀e∈o.after,Region.binds .any e=true→Li listed e.on) {id:Nat} (ha:(L.K i).wr id) (hsz:listed.size=ops.size):
 (hget (L.H i) id≠ .free→Good ops L listed i id)∧(hget (L.H (i+1)) id≠ .free→Good ops L (listed.setIfInBounds i true) (i+1) id):=by
 have hil:=getElem?_lt hi
 have ord: ∀j,j<ops.size→j≠i→(L.K j).wr id→(Li listed j↔j<i):=fun j hj hji hw=>by
  refine acts_order hL hD hc hi hnl hed (Kd.wr_acts ha) hj hji (Kd.wr_acts hw) fun p q hp hq=>?_
  rw[hp] at ha;rw[hq] at hw
  exact Eq.trans (show p=id from ha) (show q=id from hw).symm
 refine ⟨fun hnf=>⟨by omega,fun j hj hw _=>?_,hnf⟩,fun hnf=>⟨hil,fun j hj hw _=>?_,hnf⟩⟩
 ·by_cases hji:j=i
  ·subst hji;exact ⟨fun h=>absurd h hnl,fun h=>absurd h (Nat.lt_irrefl _)⟩
  ·exact ord j hj hji hw
 ·rw[li_set (by omega)]
  by_cases hji:j=i
  ·subst hji;simp
  ·rw[ord j hj hji hw];omega
theorem InvB.store(h:InvB ops L listed σ0 H0 pr w0 τ w)(hc: ∀(j:Nat) (o:Oper),ops[j]? =some o→Li listed j→ ∀e∈o.after,Region.binds .any e=true→Li listed e.on){i:Nat}{o:Oper}(hi:ops[i]? =some o)(hnl: ¬Li listed i)
 (hed: ∀e∈o.after,Region.binds .any e=true→Li listed e.on) (hsz:listed.size=ops.size) {b:Nat} (hk:L.K i= .store b) {a:Act} (hod:OdW (res τ (L.H i)) (L.W i) o a):
 (∀c,o.op≠ .defer c)∧ ∃w' e,(execOp a.eval o).run P w= .ok .skip w'∧τ b=some e∧But e.blk w w'∧InvB ops L (listed.setIfInBounds i true) σ0 H0 pr w0 τ w':=by
 have hil:=getElem?_lt hi
 have ils:i<listed.size:=by omega
 obtain ⟨_,hE⟩:=hL.ent i o (Nat.zero_le _) hi
 rw[hk] at hE
 obtain ⟨_,_,el,sp,c,c',h1,h2,hs⟩:=hE
 obtain ⟨e,he⟩:=hs.2.1 _ a hod
 have hτ:=(res_some.1 he).2
 have hwr:(L.K i).wr b:=by rw[hk];rfl
 have hwr': ∀ {id:Nat},id≠b→ ¬(L.K i).wr id:=fun hne hw=>by rw[hk] at hw;exact hne (show b=_ from hw).symm
 obtain ⟨ga,gb⟩:=good_at hL hD hc hi hnl hed hwr hsz
 have hgi:=ga (by rw[h1];simp)
 have hgi':=gb (by rw[h2.1];simp)
 have hbr:=h.br b e i hτ hgi
 rw[h1] at hbr
 obtain ⟨w',r1,r2,r3,r4⟩:=hs.2.2 _ a w e hod he hbr
 have hgl: ∀ {q id:Nat},id≠b→(Good ops L (listed.setIfInBounds i true) q id↔Good ops L listed q id):=fun hne=>good_list ils fun hw=>(hwr' hne hw).elim
 have ext: ∀ {id:Nat},id≠b→(∃q,Good ops L listed q id)→ ∃q,Good ops L (listed.setIfInBounds i true) q id:=fun hne ⟨q,hq⟩=>⟨q,(hgl hne).2 hq⟩
 have aliveB: ∀q,Good ops L listed q b→hget (L.H q) b≠ .dead:=fun q hq=>by rw[hq.eq hL hgi,h1];simp
 have alive: ∀ {id:Nat},(∀q,Good ops L (listed.setIfInBounds i true) q id→hget (L.H q) id≠ .dead)→ ∀q,Good ops L listed q id→hget (L.H q) id≠ .dead:=fun {id} h1 q hq=>by
  by_cases hid:id=b
  ·subst hid;exact aliveB q hq
  ·exact h1 q ((hgl hid).2 hq)
 refine ⟨hs.1,w',e,r1,hτ,r2,⟨h.base.none_but r2 (h.good b e hτ).2.2,h.le,fun id x hx=>?_,fun id x q hx hq=>?_,fun id id' x x' q1 q2 q3 q4=>?_,fun id x hx hEa=>?_,fun id ob hd=>?_⟩⟩
 ·obtain ⟨p1,p2,p3⟩:=h.good id x hx
  refine ⟨?_,by rw[r2.size];exact p2,p3⟩
  by_cases hid:id=b
  ·subst hid;exact ⟨_,hgi'⟩
  ·exact ext hid p1
 ·by_cases hid:id=b
  ·subst hid
   rw[hτ] at hx;obtain rfl:=Option.some.inj hx
   have hiq:i<q:=(hq.2.1 i hil hwr (by rw[h1];simp)).1 ((li_set ils).2 (.inl rfl))
   rw[hq.eq hL hgi',h2.1]
   exact r4.mono (res_mono hL (by omega) hq.1)
  ·have hq':=(hgl hid).1 hq
   refine (h.br id x q hx hq').away r2 (fun hnd=>?_) (fun _ _ _=> .inr r3)
   refine h.apart id b x e hx hτ hid (.inr ⟨fun q2 hq2=>?_,aliveB⟩)
   rw[hq2.eq hL hq'];exact hnd
 ·refine h.apart id id' x x' q1 q2 q3 ?_
  rcases q4 with q4|⟨q4,q5⟩
  ·exact .inl (early_list ils q4)
  ·exact .inr ⟨alive q4,alive q5⟩
 ·have hne:id≠b:=fun eq=>by
   subst eq
   obtain ⟨j,j1,j2,j3,j4⟩:=early_list ils hEa
   have hji:j≠i:=fun e=>by subst e;rw[hk] at j2;cases j2
   have:=acts_order hL hD hc hi hnl hed (by rw[hk];trivial) j1 hji (by rw[j2];trivial) (fun p q _ hq=>by rw[j2] at hq;cases hq)
   have hij:i<j:=by
    rcases Nat.lt_or_ge j i with h|h
    ·exact absurd (this.2 h) j3
    ·omega
   exact hL.stays (Nat.le_of_lt hij) (by omega) id (by rw[h1];simp) j4
  obtain ⟨k,ob,k1,k2,k3⟩:=h.early id x hx (early_list ils hEa)
  exact ⟨k,ob,k1,k2,fun q hq=>k3 q ((hgl hne).1 hq)⟩
 ·obtain ⟨p1,p2,p3⟩:=h.due id ob (due_list ils hd)
  have hne:id≠b:=fun eq=>by subst eq;rw[hτ] at p1;cases p1
  exact ⟨p1,ext hne p2,fun q hq=>p3 q ((hgl hne).1 hq)⟩
theorem InvB.sim(h:InvB ops L listed σ0 H0 pr w0 τ w){i:Nat}(hg: ∀id,hget (L.H i) id≠ .free→Good ops L listed i id):Sim pr w0 (res τ (L.H i)) (L.H i) w where
 size:=(fun _=>h.base.size) hD
 os:=h.base.os
 tape:=h.base.tape
 output:=h.base.output
 glob:=h.base.glob
 prot:=h.base.prot
 dom:=fun id e he=>h.br id e i (res_some.1 he).2 (hg id (res_some.1 he).1)
 lies:=fun id e he=>(h.good id e (res_some.1 he).2).2
 inj:=fun id id' x x' h1 h2 d1 d2 hne=>by
  obtain ⟨p1,p2⟩:=res_some.1 h1
  obtain ⟨p3,p4⟩:=res_some.1 h2
  exact h.apart id id' x x' p2 p4 hne (.inr ⟨fun q hq=>by rw[hq.eq hL (hg id p1)];exact d1,fun q hq=>by rw[hq.eq hL (hg id' p3)];exact d2⟩)
theorem InvB.act(h:InvB ops L listed σ0 H0 pr w0 τ w)(hc: ∀(j:Nat) (o:Oper),ops[j]? =some o→Li listed j→ ∀e∈o.after,Region.binds .any e=true→Li listed e.on){i:Nat}{o:Oper}(hi:ops[i]? =some o)(hnl: ¬Li listed i)
 (hed: ∀e∈o.after,Region.binds .any e=true→Li listed e.on) (hsz:listed.size=ops.size) (hk:L.K i= .act) {a:Act} (hod:OdW (res τ (L.H i)) (L.W i) o a) {Q:Nat→Prop} (hQ: ∀g,Q g→g<w.heap.size∧ ∀id e,τ id=some e→e.blk≠g) (r:Option Nat):
 OpRun P r o a w fun x w'=> ∃τ',InvB ops L (listed.setIfInBounds i true) σ0 H0 pr w0 τ' w'∧(∀q,q≤ops.size→(res τ (L.H q)).le (res τ' (L.H q)))∧conc (res τ' (L.H (i+1))) (L.V i)=some x∧
  (∀g,Q g→w'.heap[g]? =w.heap[g]? ∧ ∀id e,τ' id=some e→e.blk≠g)∧w.heap.size≤w'.heap.size:=by
 have hil:=getElem?_lt hi
 have ils:i<listed.size:=by omega
 obtain ⟨_,hE⟩:=hL.ent i o (Nat.zero_le _) hi
 rw[hk] at hE
 obtain ⟨_,e2⟩:=hE
 have hwr: ∀id,(L.K i).wr id:=fun id=>by rw[hk];trivial
 have gd:=fun id=>good_at hL hD hc hi hnl hed (hwr id) hsz
 have ord: ∀j,j<ops.size→j≠i→(L.K j).acts→(Li listed j↔j<i):=fun j hj hji ha=>acts_order hL hD hc hi hnl hed (by rw[hk];trivial) hj hji ha (fun p q hp _=>by rw[hk] at hp;cases hp)
 have isEarly: ∀ {id:Nat},hget (L.H i) id= .free→Early ops L listed id:=fun hf=>⟨i,hil,hk,hnl,hf⟩
 have hsim:=h.sim hL hD fun id=>(gd id).1
 have hq: ∀c,((∃id x,τ id=some x∧hget (L.H i) id= .free∧x.blk=c)∨Q c)→c<w.heap.size∧ ∀id e,res τ (L.H i) id=some e→e.blk≠c:=fun c hcc=>by
  rcases hcc with ⟨id,x,h1,h2,h3⟩|hcc
  ·subst h3
   refine ⟨(h.good id x h1).2.1,fun id' e he=>?_⟩
   obtain ⟨q1,q2⟩:=res_some.1 he
   exact (h.apart id id' x e h1 q2 (fun eq=>by subst eq;exact q1 h2) (.inl (isEarly h2))).symm
  ·exact ⟨(hQ c hcc).1,fun id e he=>(hQ c hcc).2 id e (res_some.1 he).2⟩
 refine (e2.2 r _ w _ a w hod (hsim.rebase hq)).mono fun x w' ⟨υ,g1,g2,g3⟩=>?_
 have hst:Stays (L.H i) (L.H (i+1)):=e2.1
 let τ':Sg:=fun id=>if isFree (hget (L.H (i+1)) id) then τ id else υ id
 have tf: ∀ {id:Nat},hget (L.H (i+1)) id= .free→τ' id=τ id:=fun hf=>if_pos (isFree_iff.2 hf)
 have tn: ∀ {id:Nat},hget (L.H (i+1)) id≠ .free→τ' id=υ id:=fun hf=>if_neg (fun x=>hf (isFree_iff.1 x))
 have hres:res τ' (L.H (i+1))=υ:=funext fun id=>by
  by_cases hf:hget (L.H (i+1)) id= .free
  ·rw[res_none.2 (.inl hf),g3.fresh hf]
  ·unfold res;rw[if_neg (fun x=>hf (isFree_iff.1 x)),tn hf]
 have hback:=hsim.back g3
 have mkFree: ∀ {k id:Nat} {ob:AO},k<ops.size→(L.K k).mk id ob→hget (L.H i) id= .free→hget (L.H (i+1)) id= .free:=fun {k id ob} hk1 hmk hf=>by
  obtain ⟨m1,m2,m3⟩:=hL.mks hk1 hmk
  have hki:i<k:=by
   rcases Nat.lt_trichotomy i k with h1|h1|h1
   ·exact h1
   ·subst h1;rw[hk] at hmk;exact hmk.elim
   ·exact absurd hf (hL.stays (i:=k+1) h1 (by omega) id (by rw[m3];exact m1.ne))
  exact hL.free (by omega) (by omega) m2
 have earlyFree: ∀ {id:Nat} {y:En},τ id=some y→hget (L.H i) id= .free→hget (L.H (i+1)) id= .free:=fun {id y} hy hf=>by
  obtain ⟨k,ob,k1,k2,k3⟩:=h.early id y hy (isEarly hf)
  exact mkFree k1 k2 hf
 have rle: ∀q,q≤ops.size→(res τ (L.H q)).le (res τ' (L.H q)):=fun q hq1 id y hy=>by
  obtain ⟨h1,h2⟩:=res_some.1 hy
  refine res_some.2 ⟨h1,?_⟩
  by_cases hf:hget (L.H i) id= .free
  ·rw[tf (earlyFree h2 hf)];exact h2
  ·rw[tn (hst id hf)]
   exact g1.le id y (res_some.2 ⟨hf,h2⟩)
 have hgl: ∀ {q id:Nat},hget (L.H i) id= .free→(Good ops L (listed.setIfInBounds i true) q id↔Good ops L listed q id):=fun hf=>good_list ils fun _=>hf
 have ext: ∀ {id:Nat},hget (L.H i) id= .free→(∃q,Good ops L listed q id)→ ∃q,Good ops L (listed.setIfInBounds i true) q id:=fun hne ⟨q,hq⟩=>⟨q,(hgl hne).2 hq⟩
 have fr: ∀ {id:Nat},hget (L.H (i+1)) id= .free→hget (L.H i) id= .free:=fun hf=>hL.free (Nat.le_succ i) hil hf
 have ge: ∀ {q id:Nat},hget (L.H (i+1)) id≠ .free→Good ops L (listed.setIfInBounds i true) q id→i+1≤q:=fun {q id} hn hq=>by
  rcases Nat.lt_or_ge q (i+1) with h1|h1
  ·have hnf:=hL.stays (i:=q) (j:=i) (by omega) (by omega) id hq.2.2
   have:=(hq.2.1 i hil (hwr id) hnf).1 ((li_set ils).2 (.inl rfl))
   omega
  ·exact h1
 have earlyAft: ∀ {id:Nat},Early ops L (listed.setIfInBounds i true) id→hget (L.H (i+1)) id= .free:=fun {id} ⟨j,j1,j2,j3,j4⟩=>by
  have hji:j≠i:=fun e=>j3 ((li_set ils).2 (.inl e))
  have hij:i<j:=by
   rcases Nat.lt_or_ge j i with h1|h1
   ·exact absurd ((li_set ils).2 (.inr ((ord j j1 hji (by rw[j2];trivial)).2 h1))) j3
   ·omega
  exact hL.free (by omega) (by omega) j4
 refine ⟨τ',⟨hback.none_of,fun id e he=>?_,fun id e he=>?_,fun id e q he hq'=>?_,fun id id' x x' q1 q2 q3 q4=>?_,fun id x hx hEa=>?_,fun id ob hd=>?_⟩,rle,by rw[hres];exact g2,fun g hg=>⟨(g3.prot g (.inr (.inr hg))).2,fun id e he=>?_⟩,g3.size⟩
 ·have hτ:=h.le id e he
  obtain ⟨⟨q,hq'⟩,_⟩:=h.good id e hτ
  exact (res_some.1 (rle q hq'.1 id e (res_some.2 ⟨hq'.2.2,hτ⟩))).2
 ·by_cases hf:hget (L.H (i+1)) id= .free
  ·rw[tf hf] at he
   obtain ⟨p1,p2,p3⟩:=h.good id e he
   exact ⟨ext (fr hf) p1,Nat.lt_of_lt_of_le p2 g3.size,p3⟩
  ·rw[tn hf] at he
   exact ⟨⟨_,(gd id).2 hf⟩,(hback.lies id e he)⟩
 ·by_cases hf:hget (L.H (i+1)) id= .free
  ·rw[tf hf] at he
   have hq2:=(hgl (fr hf)).1 hq'
   obtain ⟨k,ob,k1,k2,k3⟩:=h.early id e he (isEarly (fr hf))
   have hb:=(h.br id e q he hq2).mono (rle q hq2.1)
   rw[k3 q hq2] at hb ⊢
   exact hb.plain (hL.mks k1 k2).1 (g3.prot e.blk (.inr (.inl ⟨id,e,he,fr hf,rfl⟩))).2
  ·rw[tn hf] at he
   have:=hback.dom id e he
   rw[hq'.eq hL ((gd id).2 hf)]
   rw[←hres] at this
   exact this.mono (res_mono hL (ge hf hq') hq'.1)
 ·by_cases hf:hget (L.H (i+1)) id= .free
  ·rw[tf hf] at q1
   by_cases hf':hget (L.H (i+1)) id'= .free
   ·rw[tf hf'] at q2;exact h.apart id id' x x' q1 q2 q3 (.inl (isEarly (fr hf)))
   ·rw[tn hf'] at q2
    intro eq
    exact (g3.lies id' x' q2).2 (.inr (.inl ⟨id,x,q1,fr hf,eq⟩))
  ·rw[tn hf] at q1
   by_cases hf':hget (L.H (i+1)) id'= .free
   ·rw[tf hf'] at q2
    intro eq
    exact (g3.lies id x q1).2 (.inr (.inl ⟨id',x',q2,fr hf',eq.symm⟩))
   ·rw[tn hf'] at q2
    rcases q4 with q4|⟨q4,q5⟩
    ·exact absurd (earlyAft q4) hf
    ·exact hback.inj id id' x x' q1 q2 (q4 _ ((gd id).2 hf)) (q5 _ ((gd id').2 hf')) q3
 ·have hf:=earlyAft hEa
  rw[tf hf] at hx
  obtain ⟨k,ob,k1,k2,k3⟩:=h.early id x hx (isEarly (fr hf))
  exact ⟨k,ob,k1,k2,fun q hq=>k3 q ((hgl (fr hf)).1 hq)⟩
 ·have hd0:=due_list ils hd
  obtain ⟨p1,p2,p3⟩:=h.due id ob hd0
  by_cases hfi:hget (L.H i) id= .free
  ·have hf:hget (L.H (i+1)) id= .free:=by
    rcases hd0 with ⟨_,d2,d3⟩|⟨k,vf,d1,d2,_⟩|⟨k,d1,_,d2,_⟩
    ·refine absurd (hL.free (Nat.zero_le i) (by omega) hfi) ?_
     rw[hL.atH,d2];exact d3
    ·exact mkFree (ob:=ob) d1 (by rw[d2];exact ⟨rfl,rfl⟩) hfi
    ·exact mkFree d1 d2 hfi
   exact ⟨by rw[tf hf];exact p1,ext hfi p2,fun q hq=>p3 q ((hgl hfi).1 hq)⟩
  ·obtain ⟨o1,o2⟩:=g1.out id (res_none.2 (.inr p1)) hfi
   have hf:=hst id hfi
   refine ⟨by rw[tn hf];exact o1,⟨_,(gd id).2 hf⟩,fun q hq=>?_⟩
   rw[hq.eq hL ((gd id).2 hf),o2]
   exact p3 i ((gd id).1 hfi)
 ·by_cases hf:hget (L.H (i+1)) id= .free
  ·rw[tf hf] at he;exact (hQ g hg).2 id e he
  ·rw[tn hf] at he
   intro eq
   exact (g3.lies id e he).2 (.inr (.inr (eq▸hg)))
end acts
end Go.Ev
namespace Go.Ev
section ents
theorem range_split{n i:Nat}(h:i<n):List.range n=List.range i++i::(List.range' (i+1) (n-(i+1))):=by
 obtain ⟨d,rfl⟩: ∃d,n=i+(d+1):=⟨n-i-1,by omega⟩
 rw[List.range_eq_range',List.range_eq_range', ←List.range'_append_1,List.range'_succ,show i+(d+1)-(i+1)=d by omega]
 simp
theorem EntsR.perm{σ:Sg}{es es':List (AV × AV)}(h:es.Perm es'): ∀ {l:List MapEntry},EntsR σ es l→ ∃l',l'.Perm l∧EntsR σ es' l':=by
 induction h with
 |nil=>intro l hl;exact ⟨l, .refl _,hl⟩
 |cons x _ ih=>
  intro l hl
  cases l with
  |nil=>exact hl.elim
  |cons e l=>
   obtain ⟨l',p1,p2⟩:=ih hl.2
   exact ⟨e::l',p1.cons e,hl.1,p2⟩
 |swap x y r=>
  intro l hl
  cases l with
  |nil=>exact hl.elim
  |cons e l=>cases l with
   |nil=>exact hl.2.elim
   |cons e' l=>exact ⟨e'::e::l, .swap _ _ _,hl.2.1,hl.1,hl.2.2⟩
 |trans _ _ ih1 ih2=>
  intro l hl
  obtain ⟨l1,p1,p2⟩:=ih1 hl
  obtain ⟨l2,p3,p4⟩:=ih2 p2
  exact ⟨l2,p3.trans p1,p4⟩
theorem MapU.perm'{σ:Sg}{es es':List (AV × AV)}{l:List MapEntry}{cl:Nat}(h:MapU σ es l cl)(hp:es.Perm es'):MapU σ es' l cl:=by
 obtain ⟨l',p1,p2⟩:=h.perm
 obtain ⟨l'',p3,p4⟩:=EntsR.perm hp p2
 exact ⟨⟨l'',p1.trans p3.symm,p4⟩,h.keys,h.born,h.borns,h.clk⟩
theorem MapU.mono'{σ τ:Sg}(hle:σ.le τ){es:List (AV × AV)}{l:List MapEntry}{cl:Nat}(h:MapU σ es l cl):MapU τ es l cl:=by
 obtain ⟨l',p1,p2⟩:=h.perm
 exact ⟨⟨l',p1,p2.mono hle⟩,h.keys,h.born,h.borns,h.clk⟩
end ents
section drawn
variable {P:Program} {ops:Array Oper} {bl:List Nat} {F:Fs} {C:Ctx} {W0:Wd} {H0:Hp} {L:Lg}
def entsOf(ops:Array Oper)(L:Lg)(listed:Array Bool):List (AV × AV):=(List.range ops.size).flatMap fun q=>if listed[q]? =some true then (L.K q).ent else []
theorem ents_list{listed:Array Bool}{i:Nat}(hi:i<listed.size)(hn:(L.K i).ent=[]):entsOf ops L (listed.setIfInBounds i true)=entsOf ops L listed:=by
 refine flatMap_eq fun q _=>?_
 by_cases hq:q=i
 ·subst hq;rw[hn];simp
 ·have:=li_set (j:=q) hi
  simp only[Li,hq,false_or] at this
  simp only[this]
theorem ents_add{listed:Array Bool}{i:Nat}(hi:i<listed.size)(hsz:listed.size=ops.size)(hn: ¬Li listed i):(entsOf ops L listed++(L.K i).ent).Perm (entsOf ops L (listed.setIfInBounds i true)):=by
 have hr:List.range ops.size=List.range i++i::(List.range' (i+1) (ops.size-(i+1))):=by
  exact range_split (by omega)
 unfold entsOf
 rw[hr,List.flatMap_append,List.flatMap_append,List.flatMap_cons,List.flatMap_cons]
 have other: ∀q,q≠i→((if (listed.setIfInBounds i true)[q]? =some true then (L.K q).ent else [])=if listed[q]? =some true then (L.K q).ent else []):=fun q hq=>by
  have:=li_set (j:=q) hi
  simp only[Li,hq,false_or] at this
  simp only[this]
 rw[flatMap_eq (l:=List.range i) (fun q hq=>other q (by have:=List.mem_range.1 hq;omega)),flatMap_eq (l:=List.range' (i+1) _) (fun q hq=>other q (by have:=List.mem_range'.1 hq;omega))]
 rw[if_neg (show ¬listed[i]? =some true from hn),if_pos (show (listed.setIfInBounds i true)[i]? =some true from (li_set hi).2 (.inl rfl))]
 simp only[List.nil_append,List.append_assoc]
 exact (List.perm_append_left_iff _).2 List.perm_append_comm
theorem ents_all{s m b f:Nat}{t:TypeId}(hd:LitD ops L s m b f t){listed:Array Bool}(hp: ¬Pend ops L listed){d:KEq}{key x:AV}{es:List (AV × AV)}(hk:L.K f= .fill true b d key x es):entsOf ops L listed=es++[(key,x)]:=by
 obtain ⟨_,_,_,_,he,_⟩:=hd.fills f _ _ _ _ _ _ hd.flt hk
 have h1:entsOf ops L listed=(List.range ops.size).flatMap fun q=>(L.K q).ent:=by
  refine flatMap_eq fun q hq=>?_
  by_cases hl:listed[q]? =some true
  ·rw[if_pos hl]
  ·rw[if_neg hl]
   cases hkq:L.K q with
   |fill _ _ _ _ _ _=>exact absurd ⟨q,by simpa using hq,by rw[hkq];trivial,hl⟩ hp
   |_=>rfl
 have hflt:=hd.flt
 have hr:List.range ops.size=List.range f++f::(List.range' (f+1) (ops.size-(f+1))):=by
  exact range_split (by omega)
 rw[h1,hr,List.flatMap_append,List.flatMap_cons, ←he,hk]
 have h2:((List.range' (f+1) (ops.size-(f+1))).flatMap fun q=>(L.K q).ent)=[]:=by
  refine List.flatMap_eq_nil_iff.2 fun q hq=>?_
  have hq':=List.mem_range'.1 hq
  cases hkq:L.K q with
  |fill _ _ _ _ _ _=>have:=(hd.fills q _ _ _ _ _ _ (by omega) hkq).2.1;omega
  |_=>rfl
 rw[h2];rfl
theorem LitD.uniq{s m b f s' m' b' f':Nat}{t t':TypeId}(h:LitD ops L s m b f t)(h':LitD ops L s' m' b' f' t'):s'=s∧m'=m∧b'=b∧f'=f:=by
 obtain rfl:=h.only s' b' h'.slt h'.ks
 have hb:=h.ks.symm.trans h'.ks
 injection hb with hb
 obtain ⟨o,o1,o2,_⟩:=h.dst
 obtain ⟨o',o3,o4,_⟩:=h'.dst
 rw[o1] at o3;obtain rfl:=Option.some.inj o3
 rw[o2] at o4
 obtain ⟨_,_,_,_,hk⟩:=h'.kf
 exact ⟨rfl,(Option.some.inj o4).symm,hb.symm,(h.fills f' _ _ _ _ _ _ h'.flt hk).2.2.1 rfl⟩
def Ghost(ops:Array Oper)(L:Lg)(listed:Array Bool)(pr:Nat→Prop)(τ:Sg)(w:World)(f g:Nat):Prop:=
 g<w.heap.size∧ ¬pr g∧(∀id e,τ id=some e→e.blk≠g)∧ ∃l cl,w.heap[g]? =some (.map l cl)∧MapU (res τ (L.H f)) (entsOf ops L listed) l.toList cl
def LitS(ops:Array Oper)(L:Lg)(listed:Array Bool)(pr:Nat→Prop)(τ:Sg)(a:Act)(w:World):Prop:=
 ∀s m b f t,LitD ops L s m b f t→Li listed s→ ∃g,a.tmps.getD m undef= .map (some g)∧((¬Pend ops L listed∧ ∃e,τ b=some e∧e.blk=g)∨(Pend ops L listed∧Ghost ops L listed pr τ w f g))
structure Inv (ops:Array Oper) (L:Lg) (σ0:Sg) (H0:Hp) (pr:Nat→Prop) (w0:World) (N:Nat) (ds:List Deferred) (listed:Array Bool) (τ:Sg) (a:Act) (w:World):Prop where
 lsz:listed.size=ops.size
 closed: ∀(j:Nat) (o:Oper),ops[j]? =some o→Li listed j→ ∀e∈o.after,Region.binds .any e=true→Li listed e.on
 blk:InvB ops L listed σ0 H0 pr w0 τ w
 vals: ∀(k:Nat) (o:Oper) (t:Nat),ops[k]? =some o→o.dst=some t→Li listed k→(∀b,L.K k≠ .lit b)→conc (res τ (L.H (k+1))) (L.V k)=some (a.tmps.getD t undef)
 old: ∀t v,L.W 0 t=some v→(∀(k:Nat) (o:Oper),ops[k]? =some o→o.dst=some t→ ¬Li listed k)→conc (res τ (L.H 0)) v=some (a.tmps.getD t undef)
 lits:LitS ops L listed pr τ a w
 size:a.tmps.size=N
 defers:a.defers=ds
theorem OdW.mono{σ τ:Sg}(h:σ.le τ){W:Wd}{o:Oper}{a:Act}(k:OdW σ W o a):OdW τ W o a:=fun t ht v hv=>conc_mono h _ _ (k t ht v hv)
section inv
variable (hL:LgOk P ops bl F C 0 W0 H0 L) (hD:Drawn ops bl) (hC:C.ms=none)
variable {σ0:Sg} {pr:Nat→Prop} {w0:World} {N:Nat} {ds:List Deferred} {listed:Array Bool} {τ τ':Sg} {a:Act} {w w':World}
theorem Inv.put_getD(hD:Drawn ops bl){i:Nat}{o:Oper}(hi:ops[i]? =some o)(hdst:DstIn a.tmps.size o)(x:Value){k:Nat}{ok:Oper}(hk:ops[k]? =some ok)(hne:k≠i){t:Nat}(ht:ok.dst=some t):
 (a.put o.dst x).tmps.getD t undef=a.tmps.getD t undef:=by
 rw[getD_put hdst,if_neg]
 intro ho
 rcases Nat.lt_or_ge k i with h1|h1
 ·exact hD.dst k i ok o t h1 hk hi ht ho
 ·exact hD.dst i k o ok t (by omega) hi hk ho ht
include hL hD hC
theorem Inv.reads(h:Inv ops L σ0 H0 pr w0 N ds listed τ a w){i:Nat}(hi:i≤ops.size)(hnl: ¬Li listed i)
 {look:Nat→Prop} (hlk: ∀k o t,k<i→ops[k]? =some o→o.dst=some t→look t→Li listed k) (hgt: ∀k o t,i<k→ops[k]? =some o→o.dst=some t→look t→ ¬Li listed k)
 (hlit: ∀s m b f ty,LitD ops L s m b f ty→look m→ ¬Pend ops L listed∧f<i)
 {t:Nat} (ht:look t) {v:AV} (hv:L.W i t=some v):conc (res τ (L.H i)) v=some (a.tmps.getD t undef):=by
 rcases hL.W_cases hi t with ⟨h1,h2⟩|⟨k,o,h1,h2,h3,h4⟩
 ·rw[h1, ←hL.atW] at hv
  refine conc_mono (res_mono hL (Nat.zero_le i) hi) _ _ (h.old t v hv fun k o ho hd=>?_)
  rcases Nat.lt_trichotomy k i with hk|hk|hk
  ·exact absurd hd (h2 k o hk ho)
  ·subst hk;exact hnl
  ·exact hgt k o t hk ho hd ht
 ·rw[h4] at hv;obtain rfl:=Option.some.inj hv
  have hkl:=hlk k o t h1 h2 h3 ht
  by_cases hlt: ∃b,L.K k= .lit b
  ·obtain ⟨b,hkb⟩:=hlt
   obtain ⟨m,f,ty,hd⟩:=litD_of_lit hL hD hC (getElem?_lt h2) hkb
   obtain ⟨os,o1,o2,_⟩:=hd.dst
   rw[h2] at o1;obtain rfl:=Option.some.inj o1
   rw[h3] at o2;obtain rfl:=Option.some.inj o2
   obtain ⟨hp,hfi⟩:=hlit _ _ _ _ _ hd ht
   obtain ⟨g,g1,g2⟩:=h.lits _ _ _ _ _ hd hkl
   obtain ⟨_,hE⟩:=hL.ent k o (Nat.zero_le _) h2
   rw[hkb] at hE
   rcases g2 with ⟨_,e,e1,e2⟩|⟨p,_⟩
   ·obtain ⟨d,key,x,es,hkf⟩:=hd.kf
    obtain ⟨m1,m2,m3⟩:=hL.mks hd.flt (b:=b) (ob:= .umap (es++[(key,x)])) (by rw[hkf];exact ⟨rfl,rfl,rfl⟩)
    have hn:hget (L.H i) b≠ .free:=hL.stays (i:=f+1) hfi hi b (by rw[m3];simp)
    rw[hE.2.2.1,g1]
    simp[conc,res_some.2 ⟨hn,e1⟩,e2]
   ·exact absurd p hp
  ·exact conc_mono (res_mono hL (by omega) hi) _ _ (h.vals k o t h2 h3 hkl fun b hb=>hlt ⟨b,hb⟩)
theorem Inv.looks(h:Inv ops L σ0 H0 pr w0 N ds listed τ a w){i:Nat}{o:Oper}(hi:ops[i]? =some o)(hnl: ¬Li listed i)(hed: ∀e∈o.after,Region.binds .any e=true→Li listed e.on)
 {t:Nat} (hf:(L.K i).isFill→ ∀s m b f ty,LitD ops L s m b f ty→t≠m) (ht:(Ev.looks ops o).testBit t=true) {v:AV} (hv:L.W i t=some v):conc (res τ (L.H i)) v=some (a.tmps.getD t undef):=by
 have hlt:=getElem?_lt hi
 have rdy: ∀o',ops[i]? =some o'→ ∀e∈o'.after,Region.binds .any e=true→Li listed e.on:=fun o' ho'=>by rw[hi] at ho';obtain rfl:=Option.some.inj ho';exact hed
 refine h.reads hL hD hC (by omega) hnl (look:=fun t=>(Ev.looks ops o).testBit t=true∧((L.K i).isFill→ ∀s m b f ty,LitD ops L s m b f ty→t≠m)) (fun k ok t hk hok hd hlk=>?_) (fun k ok t hk hok hd hlk hli=>?_) (fun s m b f ty hd hlk=>?_) ⟨ht,hf⟩ hv
 ·rcases hD.sep k i ok o hk hok hi with hb|⟨h1,_⟩
  ·exact bef_li h.closed hb rdy
  ·rw[h1 t hd] at hlk;exact absurd hlk.1 (by simp)
 ·rcases hD.sep i k o ok hk hi hok with hb|⟨_,h1⟩
  ·exact hnl (bef_li h.closed hb fun o' ho'=>by rw[hok] at ho';obtain rfl:=Option.some.inj ho';exact h.closed k _ hok hli)
  ·rw[h1 t hd] at hlk;exact absurd hlk.1 (by simp)
 ·rcases hd.look i o hi hlk.1 with h1|h1
  ·exact absurd rfl (hlk.2 h1 _ _ _ _ _ hd)
  ·refine ⟨fun ⟨j,j1,j2,j3⟩=>j3 (bef_li h.closed (h1 j j1 j2) rdy),?_⟩
   obtain ⟨d,key,x,es,hkf⟩:=hd.kf
   exact (h1 f hd.flt (by rw[hkf];trivial)).lt hD.edge
theorem Inv.odW(h:Inv ops L σ0 H0 pr w0 N ds listed τ a w){i:Nat}{o:Oper}(hi:ops[i]? =some o)(hnl: ¬Li listed i)(hed: ∀e∈o.after,Region.binds .any e=true→Li listed e.on)(hf: ¬(L.K i).isFill):OdW (res τ (L.H i)) (L.W i) o a:=
 fun _t ht _v hv=>h.looks hL hD hC hi hnl hed (fun h=>absurd h hf) (looks_oper ht) hv
theorem Inv.wanted(h:Inv ops L σ0 H0 pr w0 N ds listed τ a w){i:Nat}{o:Oper}(hi:ops[i]? =some o)(hnl: ¬Li listed i)(hed: ∀e∈o.after,Region.binds .any e=true→Li listed e.on){r:Bool}(hw:WantW ops o (L.W i) r):
 Region.wanted o (yielded ops a.tmps)=r:=by
 rcases hw with ⟨h1,rfl⟩|⟨t,want,u,h1,h2,h3⟩
 ·exact wanted_none h1 _
 ·rw[wanted_some h1 (h.looks hL hD hC hi hnl hed (fun hf=>?_) (looks_guard h1) h2),h3]
  exfalso
  obtain ⟨last,b,d,key,x,es,hk⟩:=Kd.isFill_iff.1 hf
  obtain ⟨s,m,b',f,ty,hd⟩:=litD_of_fill hL hD hC (getElem?_lt hi) hf
  obtain ⟨_,_,_,_,_,o',ho',_,i2⟩:=hd.fills i _ _ _ _ _ _ (getElem?_lt hi) hk
  rw[hi] at ho';obtain rfl:=Option.some.inj ho'
  simp[guardS,insOk_guard i2] at h1
omit hL hC in
theorem Inv.next(h:Inv ops L σ0 H0 pr w0 N ds listed τ a w){i:Nat}{o:Oper}(hi:ops[i]? =some o)(hed: ∀e∈o.after,Region.binds .any e=true→Li listed e.on)(hdst:DstIn a.tmps.size o){x:Value}
 (hB:InvB ops L (listed.setIfInBounds i true) σ0 H0 pr w0 τ' w') (rle: ∀q,q≤ops.size→(res τ (L.H q)).le (res τ' (L.H q))) (hx:(∀b,L.K i≠ .lit b)→conc (res τ' (L.H (i+1))) (L.V i)=some x)
 (hl:LitS ops L (listed.setIfInBounds i true) pr τ' (a.put o.dst x) w'):Inv ops L σ0 H0 pr w0 N ds (listed.setIfInBounds i true) τ' (a.put o.dst x) w':=by
 have hlt:=getElem?_lt hi
 have ils:i<listed.size:=by rw[h.lsz];exact hlt
 refine ⟨by rw[Array.size_setIfInBounds];exact h.lsz,fun j oj hj hl e he hb=>?_,hB,fun k ok t hok hd hl hnlit=>?_,fun t v hv hn=>?_,hl,by rw[size_put];exact h.size,by rw[defers_put];exact h.defers⟩
 ·rcases (li_set ils).1 hl with rfl|hl
  ·rw[hi] at hj;obtain rfl:=Option.some.inj hj
   exact (li_set ils).2 (.inr (hed e he hb))
  ·exact (li_set ils).2 (.inr (h.closed j oj hj hl e he hb))
 ·by_cases hki:k=i
  ·subst hki
   rw[hi] at hok;obtain rfl:=Option.some.inj hok
   rw[getD_put hdst,if_pos hd]
   exact hx hnlit
  ·rw[Inv.put_getD hD hi hdst x hok hki hd]
   exact conc_mono (rle _ (getElem?_lt hok)) _ _ (h.vals k ok t hok hd (((li_set ils).1 hl).resolve_left hki) hnlit)
 ·have ht:o.dst≠some t:=fun hd=>hn i o hi hd ((li_set ils).2 (.inl rfl))
  rw[getD_put hdst,if_neg ht]
  exact conc_mono (rle 0 (Nat.zero_le _)) _ _ (h.old t v hv fun k ok hok hd hl=>hn k ok hok hd ((li_set ils).2 (.inr hl)))
omit hL hC in
theorem Inv.keepLit(h:Inv ops L σ0 H0 pr w0 N ds listed τ a w){i:Nat}{o:Oper}(hi:ops[i]? =some o)(hdst:DstIn a.tmps.size o)(x:Value)(hnf: ¬(L.K i).isFill)(hnlit: ∀b,L.K i≠ .lit b)
 (rle: ∀q,q≤ops.size→(res τ (L.H q)).le (res τ' (L.H q))) (hsz:w.heap.size≤w'.heap.size) (hg: ∀f g,Ghost ops L listed pr τ w f g→w'.heap[g]? =w.heap[g]? ∧ ∀id e,τ' id=some e→e.blk≠g):
 LitS ops L (listed.setIfInBounds i true) pr τ' (a.put o.dst x) w':=fun s m b f t hd hls=>by
 have hlt:=getElem?_lt hi
 have ils:i<listed.size:=by rw[h.lsz];exact hlt
 have hsi:s≠i:=fun e=>hnlit b (e▸hd.ks)
 obtain ⟨os,o1,o2,_⟩:=hd.dst
 obtain ⟨g,g1,g2⟩:=h.lits s m b f t hd (((li_set ils).1 hls).resolve_left hsi)
 have hp:Pend ops L (listed.setIfInBounds i true)↔Pend ops L listed:=by
  refine ⟨fun ⟨j,j1,j2,j3⟩=>⟨j,j1,j2,fun hl=>j3 ((li_set ils).2 (.inr hl))⟩,fun ⟨j,j1,j2,j3⟩=>⟨j,j1,j2,fun hl=>?_⟩⟩
  rcases (li_set ils).1 hl with rfl|hl
  ·exact hnf j2
  ·exact j3 hl
 have hent:(L.K i).ent=[]:=by cases hk:L.K i <;> first|rfl|(rw[hk] at hnf;exact absurd trivial hnf)
 refine ⟨g,by rw[Inv.put_getD hD hi hdst x o1 hsi o2];exact g1,?_⟩
 rw[hp]
 rcases g2 with ⟨p,e,e1,e2⟩|⟨p,q⟩
 ·refine .inl ⟨p,e,?_,e2⟩
  obtain ⟨⟨q,hq⟩,_⟩:=h.blk.good b e e1
  exact (res_some.1 (rle q hq.1 b e (res_some.2 ⟨hq.2.2,e1⟩))).2
 ·obtain ⟨k1,k2⟩:=hg f g q
  obtain ⟨q1,q2,q3,l,cl,q4,q5⟩:=q
  refine .inr ⟨p,Nat.lt_of_lt_of_le q1 hsz,q2,k2,l,cl,k1.trans q4,?_⟩
  rw[ents_list ils hent]
  exact q5.mono' (rle f (Nat.le_of_lt hd.flt))
theorem Inv.seen(h:Inv ops L σ0 H0 pr w0 N ds listed τ a w){i:Nat}{o:Oper}(hi:ops[i]? =some o)(hnl: ¬Li listed i)(hed: ∀e∈o.after,Region.binds .any e=true→Li listed e.on)
 {bk:Option Nat} (hk:L.K i= .read bk): ∃x,conc (res τ (L.H i)) (L.V i)=some x∧(execOp a.eval o).run P w= .ok (.value x) w:=by
 have hlt:=getElem?_lt hi
 obtain ⟨hW,hE⟩:=hL.ent i o (Nat.zero_le _) hi
 have hod:=h.odW hL hD hC hi hnl hed (by rw[hk];exact id)
 rw[hk] at hE
 obtain ⟨_,_,hsp,hfr,hin⟩:=hE
 cases bk with
 |none=>exact hsp.2 _ a w hod (by simp)
 |some c=>
 have hci:=hfr c rfl
 cases hτ:τ c with
 |none=>
  refine hsp.2 _ a w hod fun c' hc' e he=>?_
  obtain rfl:=Option.some.inj hc'
  rw[res_none.2 (.inr hτ)] at he;cases he
 |some e=>
  obtain ⟨⟨q,hq⟩,_⟩:=h.blk.good c e hτ
  have hqs:=hq.1
  obtain ⟨m,hm⟩: ∃m,bl[i]? =some m:=⟨_,List.getElem?_eq_getElem (by rw[hD.len];exact hlt)⟩
  have fin: ∀ {H':Hp},hget H' c=hget (L.H q) c→RSpecW P o (L.W i) H' (some c) (L.V i)→ ∃x,conc (res τ (L.H i)) (L.V i)=some x∧(execOp a.eval o).run P w= .ok (.value x) w:=fun {H'} he hs=>by
   obtain ⟨x,x1,x2⟩:=hs.2 (res τ (L.H (max i q))) a w (hod.mono (res_mono hL (by omega) (by omega))) fun c' hc' e' he'=>by
    obtain rfl:=Option.some.inj hc'
    obtain ⟨_,p2⟩:=res_some.1 he'
    rw[hτ] at p2;obtain rfl:=Option.some.inj p2
    rw[he]
    exact (h.blk.br c e q hτ hq).mono (res_mono hL (by omega) (by omega))
   exact ⟨x,conc_inHp _ _ hin (conc_mono res_sub _ _ x1),x2⟩
  rcases Nat.lt_or_ge i q with hiq|hiq
  ·rcases lastWr L c i (q-i) with hn|⟨j,j1,j2,j3,j4⟩
   ·exact fin (hL.keep (by omega) hqs (fun k h1 h2=>hn k h1 (by omega)) hci).symm hsp
   ·have hji:i<j:=by
     rcases Nat.lt_or_ge i j with h1|h1
     ·exact h1
     ·obtain rfl:j=i:=by omega
      rw[hk] at j3;exact j3.elim
    have hjs:j<ops.size:=by omega
    have hjl:Li listed j:=(hq.2.1 j hjs j3 (hL.stays (Nat.le_of_lt hji) (by omega) c hci)).2 (by omega)
    obtain ⟨mj,hmj⟩: ∃m,bl[j]? =some m:=⟨_,List.getElem?_eq_getElem (by rw[hD.len];exact hjs)⟩
    have hbit:mj.testBit i=false:=by
     cases hb:mj.testBit i with
     |false=>rfl
     |true=>exact absurd (bef_li h.closed (hD.bef j mj i hmj hb) fun o' ho'=>h.closed j o' ho' hjl) hnl
    have hs:=hL.fwd i j o (some c) mj (Nat.zero_le _) hji hi hjs hk (Kd.wr_acts j3) hmj hbit
    exact fin (hL.keep (by omega) hqs (fun k h1 h2=>j4 k (by omega) (by omega)) (hL.stays (i:=i) (j:=j+1) (by omega) (by omega) c hci)).symm hs
  ·rcases firstWr L c q (i-q) with hn|⟨j,j1,j2,j3,j4⟩
   ·exact fin (hL.keep hiq (by omega) (fun j h1 h2=>hn j h1 (by omega)) hq.2.2) hsp
   ·have hjk:=hL.keep j1 (by omega) j4 hq.2.2
    have hjs:j<ops.size:=by omega
    have hjn: ¬Li listed j:=fun hl=>by
     have:=(hq.2.1 j hjs j3 (by rw[hjk];exact hq.2.2)).1 hl
     omega
    have hbit:m.testBit j=false:=by
     cases hb:m.testBit j with
     |false=>rfl
     |true=>exact absurd (bef_li h.closed (hD.bef i m j hm hb) fun o' ho'=>by rw[hi] at ho';obtain rfl:=Option.some.inj ho';exact hed) hjn
    rcases (hL.bwd i j o (some c) m (Nat.zero_le _) (by omega) hi hk (Kd.wr_acts j3) hm hbit).1 with ⟨c',hc',hfree⟩|hs
    ·obtain rfl:=Option.some.inj hc'
     rw[hjk] at hfree;exact absurd hfree hq.2.2
    ·exact fin hjk hs
end inv
end drawn
end Go.Ev
namespace Go.Ev
section drawn
variable {P:Program} {ops:Array Oper} {bl:List Nat} {F:Fs} {C:Ctx} {W0:Wd} {H0:Hp} {L:Lg}
section inv
variable (hL:LgOk P ops bl F C 0 W0 H0 L) (hD:Drawn ops bl) (hC:C.ms=none)
variable {σ0:Sg} {pr:Nat→Prop} {w0:World} {N:Nat} {ds:List Deferred} {listed:Array Bool} {τ τ':Sg} {a:Act} {w w':World}
include hL hD hC
omit hL hD hC in
theorem res_put{b:Nat}{e:En}(hb:τ b=none)(H:Hp):(res τ H).le (res (τ.put b e) H):=fun id x hx=>by
 obtain ⟨h1,h2⟩:=res_some.1 hx
 exact res_some.2 ⟨h1,Sg.le_put τ e hb id x h2⟩
theorem Inv.make(h:Inv ops L σ0 H0 pr w0 N ds listed τ a w){i:Nat}{o:Oper}(hi:ops[i]? =some o)(hnl: ¬Li listed i)(hed: ∀e∈o.after,Region.binds .any e=true→Li listed e.on)(hdst:DstIn a.tmps.size o)
 {ob:AO} {b:Nat} {vf:Nat→AV} (hk:L.K i= .make ob b vf) {x:Value} {e:En} (hm:Made (res τ (L.H i)) w w' ob e) (hx: ∀(τ:Sg) (b:Nat),τ b=some e→conc τ (vf b)=some x):
 Inv ops L σ0 H0 pr w0 N ds (listed.setIfInBounds i true) (τ.put b e) (a.put o.dst x) w':=by
 have _:=hC
 have hlt:=getElem?_lt hi
 have ils:i<listed.size:=by rw[h.lsz];exact hlt
 obtain ⟨hW,hE⟩:=hL.ent i o (Nat.zero_le _) hi
 rw[hk] at hE
 obtain ⟨e1,e2,e3,e4,e5,e6⟩:=hE
 have hmk:(L.K i).mk b ob:=by rw[hk];exact ⟨rfl,rfl⟩
 obtain ⟨d1,⟨q,d2⟩,d3⟩:=h.blk.due b ob (.inr (.inl ⟨i,vf,hlt,hk,hnl⟩))
 have hgl: ∀ {q:Nat},Good ops L (listed.setIfInBounds i true) q b↔Good ops L listed q b:=good_list ils fun hw=>by rw[hk] at hw;exact hw.elim
 have hna: ¬(L.K i).acts:=by rw[hk];exact id
 have hwsz:=h.blk.base.size
 have hB:=((h.blk.more hm.more).list ils hna).put hL hlt hmk d1 (fun ob' hd=>?_) ⟨q,hgl.2 d2⟩ (fun q hq=>d3 q (hgl.1 hq)) hm.br hm.lt (fun hp=>by have:=(h.blk.base.prot _ hp).1;have:=hm.blk;omega) (fun id y hy=>by have:=(h.blk.good id y hy).2.1;have:=hm.blk;omega)
 ·refine h.next hD hi hed hdst hB (fun q _=>res_put d1 _) (fun _=>?_) (h.keepLit hD hi hdst x (by rw[hk];exact id) (by rw[hk];simp) (fun q _=>res_put d1 _) hm.more.size fun f g hg=>⟨hm.more.same g hg.1,fun id y hy=>?_⟩)
  ·rw[e4]
   exact hx _ b (res_some.2 ⟨by rw[e3.1];exact e2.ne,Sg.put_self τ b e⟩)
  ·by_cases hid:id=b
   ·subst hid;rw[Sg.put_self] at hy;obtain rfl:=Option.some.inj hy
    have:=hm.blk;have:=hg.1;omega
   ·rw[Sg.put_ne τ e hid] at hy;exact hg.2.2.1 id y hy
 ·rcases hd with ⟨_,c2,c3⟩|⟨k,vf',c1,c2,c3⟩|⟨k,c1,c2,c3,_⟩
  ·have:=hL.free (Nat.zero_le i) (by omega) e1
   rw[hL.atH,c2] at this;exact c3 this
  ·have:=hL.mkId c1 hlt (ob:=ob') (by rw[c2];exact ⟨rfl,rfl⟩) hmk
   exact c3 ((li_set ils).2 (.inl this))
  ·have:=hL.mkId c1 hlt c3 hmk
   subst this;rw[hk] at c2;exact c2
theorem Inv.lit(h:Inv ops L σ0 H0 pr w0 N ds listed τ a w){i:Nat}{o:Oper}(hi:ops[i]? =some o)(hnl: ¬Li listed i)(hed: ∀e∈o.after,Region.binds .any e=true→Li listed e.on)(hdst:DstIn a.tmps.size o)
 {b:Nat} (hk:L.K i= .lit b) {x:Value} {e:En} (hm:Made (res τ (L.H i)) w w' (.map []) e) (hx: ∀(τ:Sg) (b:Nat),τ b=some e→conc τ (.mp b)=some x):
 Inv ops L σ0 H0 pr w0 N ds (listed.setIfInBounds i true) τ (a.put o.dst x) w':=by
 have _:=hC
 have hlt:=getElem?_lt hi
 have ils:i<listed.size:=by rw[h.lsz];exact hlt
 have hna: ¬(L.K i).acts:=by rw[hk];exact id
 have hwsz:=h.blk.base.size
 have hx':x= .map (some e.blk):=by
  have:=hx (fun _=>some e) 0 rfl
  simp[conc] at this;exact this.symm
 refine h.next hD hi hed hdst ((h.blk.more hm.more).list ils hna) (fun q _=>Sg.le_refl _) (fun hn=>absurd hk (hn b)) fun s m b' f t hd hls=>?_
 obtain rfl:=hd.only i b hlt hk
 obtain ⟨os,o1,o2,_⟩:=hd.dst
 rw[hi] at o1;obtain rfl:=Option.some.inj o1
 have nf: ∀j,j<ops.size→(L.K j).isFill→ ¬Li listed j:=fun j hj hf hl=>by
  obtain ⟨last,b2,d,key,y,es,hkj⟩:=Kd.isFill_iff.1 hf
  obtain ⟨_,_,_,hb,_⟩:=hd.fills j _ _ _ _ _ _ hj hkj
  exact hnl (bef_li h.closed hb fun o' ho'=>h.closed j o' ho' hl)
 obtain ⟨d,key,y,es,hkf⟩:=hd.kf
 have hfi:i<f:=by
  obtain ⟨_,_,_,hb,_⟩:=hd.fills f _ _ _ _ _ _ hd.flt hkf
  exact hb.lt hD.edge
 have hpend:Pend ops L (listed.setIfInBounds i true):=⟨f,hd.flt,by rw[hkf];trivial,fun hl=>by
  rcases (li_set ils).1 hl with h1|h1
  ·omega
  ·exact nf f hd.flt (by rw[hkf];trivial) h1⟩
 refine ⟨e.blk,by rw[getD_put hdst,if_pos o2,hx'], .inr ⟨hpend,hm.lt,fun hp=>by have:=(h.blk.base.prot _ hp).1;have:=hm.blk;omega,fun id y hy=>by have:=(h.blk.good id y hy).2.1;have:=hm.blk;omega,?_⟩⟩
 obtain ⟨l,cl,l1,l2⟩:=hm.br
 refine ⟨l,cl,l1,?_⟩
 have hnil:entsOf ops L (listed.setIfInBounds i true)=[]:=by
  refine List.flatMap_eq_nil_iff.2 fun q hq=>?_
  have hq':q<ops.size:=by simpa using hq
  by_cases hl:(listed.setIfInBounds i true)[q]? =some true
  ·rw[if_pos hl]
   cases hkq:L.K q with
   |fill _ _ _ _ _ _=>
    rcases (li_set ils).1 hl with h1|h1
    ·subst h1;rw[hk] at hkq;cases hkq
    ·exact absurd h1 (nf q hq' (by rw[hkq];trivial))
   |_=>rfl
  ·rw[if_neg hl]
 rw[hnil]
 exact l2.u.mono' (res_mono hL (Nat.le_of_lt hfi) (Nat.le_of_lt hd.flt))
theorem Inv.fill(h:Inv ops L σ0 H0 pr w0 N ds listed τ a w){i:Nat}{o:Oper}(hi:ops[i]? =some o)(hnl: ¬Li listed i)(hed: ∀e∈o.after,Region.binds .any e=true→Li listed e.on)(hdst:DstIn a.tmps.size o)
 {last:Bool} {b:Nat} {d:KEq} {key y:AV} {es:List (AV × AV)} (hk:L.K i= .fill last b d key y es):
 (∀c,o.op≠ .defer c)∧ ∃w' τ',(execOp a.eval o).run P w= .ok .skip w'∧Inv ops L σ0 H0 pr w0 N ds (listed.setIfInBounds i true) τ' (a.put o.dst undef) w':=by
 have hlt:=getElem?_lt hi
 have ils:i<listed.size:=by rw[h.lsz];exact hlt
 have hna: ¬(L.K i).acts:=by rw[hk];exact id
 have hfi:(L.K i).isFill:=by rw[hk];trivial
 obtain ⟨hW,hE⟩:=hL.ent i o (Nat.zero_le _) hi
 rw[hk] at hE
 obtain ⟨_,_,hv,_,hF,hno⟩:=hE
 obtain ⟨s,m,b',f,ty,hd⟩:=litD_of_fill hL hD hC hlt hfi
 obtain ⟨rfl,hif,_,hsb,hes,o',ho',hins,hiok⟩:=hd.fills i _ _ _ _ _ _ hlt hk
 rw[hi] at ho';obtain rfl:=Option.some.inj ho'
 have hsl:Li listed s:=bef_li h.closed hsb fun o' ho'=>by rw[hi] at ho';obtain rfl:=Option.some.inj ho';exact hed
 have hpend:Pend ops L listed:=⟨i,hlt,hfi,hnl⟩
 obtain ⟨g,g1,g2⟩:=h.lits _ _ _ _ _ hd hsl
 obtain ⟨q1,q2,q3,l,cl,q4,q5⟩:Ghost ops L listed pr τ w f g:=by
  rcases g2 with ⟨p,_⟩|⟨_,p⟩
  ·exact absurd hpend p
  ·exact p
 obtain ⟨t0,m0,kx,vx,hop,_,⟨kt,et,hkt,hked⟩,hcs,hrun⟩:=hF.form
 have hm0:m0=m:=by simp only[isIns,hop] at hins;exact beq_iff.1 hins
 subst hm0
 have hiok':t0=ty∧notT m0 kx=true∧notT m0 vx=true:=by
  unfold insOk at hiok
  rw[hop] at hiok
  split at hiok
  ·rename_i t1 m1 k1 v1 _ heq
   injection heq with e1 e2 e3 e4
   subst e1 e3 e4
   obtain ⟨r1,r2⟩:=chk_iff.1 hiok
   obtain ⟨r2,r3⟩:=chk_iff.1 r2
   exact ⟨beq_iff.1 r1,r2,r3⟩
  ·cases hiok
 obtain ⟨rfl,hnk,hnv⟩:=hiok'
 have hnot: ∀ {z:Operand} {t:Nat},notT m0 z=true→Operand.tmp t=z→t≠m0:=fun hz ht e=>by
  subst ht e;simp[notT,bnot_eq] at hz
 obtain ⟨c1,c2⟩:=hcs (res τ (L.H f)) a fun t u ht hu=>by
  refine conc_mono (res_mono hL hif (Nat.le_of_lt hd.flt)) _ _ (h.looks hL hD hC hi hnl hed (fun _ s' m' b'' f' ty' hd'=>?_) (looks_oper ?_) hu)
  ·obtain ⟨_,rfl,_,_⟩:=hd.uniq hd'
   rcases ht with ht|ht
   ·exact hnot hnk ht
   ·exact hnot hnv ht
  ·rw[hop]
   rcases ht with ht|ht <;> simp[Op.operands, ←ht]
 have hnok: ∀e∈entsOf ops L listed,d key e.1=some false:=fun e he=>by
  unfold entsOf at he
  obtain ⟨q,hq,heq⟩:=List.mem_flatMap.1 he
  have hqs:q<ops.size:=by simpa using hq
  split at heq
  ·rename_i hlq
   cases hkq:L.K q with
   |fill last' b2 d' key' y' es'=>
    rw[hkq] at heq
    have heq:e=(key',y'):=by simpa[Kd.ent] using heq
    subst heq
    obtain ⟨_,_,_,_,hes',oq,hoq,hinsq,hiokq⟩:=hd.fills q _ _ _ _ _ _ hqs hkq
    obtain ⟨oq',hoq',_,hEq⟩:=hL.at hqs
    rw[hoq] at hoq';obtain rfl:=Option.some.inj hoq'
    rw[hkq] at hEq
    rcases Nat.lt_trichotomy q i with hqi|hqi|hqi
    ·refine (hno (key',y') ?_).1
     rw[hes]
     exact List.mem_flatMap.2 ⟨q,by simpa using hqi,by rw[hkq];simp[Kd.ent]⟩
    ·subst hqi;exact absurd hlq hnl
    ·have h2:=(hEq.2.2.2.2.2 (key,y) (by
      rw[hes']
      exact List.mem_flatMap.2 ⟨i,by simpa using hqi,by rw[hk];simp[Kd.ent]⟩)).2
     obtain ⟨t1,m1,k1,v1,hop1,_,⟨kt1,et1,hkt1,hked1⟩,_⟩:=hEq.2.2.2.2.1.form
     have ht1:t1=t0:=by
      unfold insOk at hiokq
      rw[hop1] at hiokq
      split at hiokq
      ·rename_i heq1
       injection heq1 with e1 e2 e3 e4
       subst e1
       exact beq_iff.1 (chk_iff.1 hiokq).1
      ·cases hiokq
     subst ht1
     rw[hkt] at hkt1;injection hkt1 with hkt1;injection hkt1 with hkt1 _;subst hkt1
     rw[hked] at hked1;obtain rfl:=Option.some.inj hked1
     exact h2
   |_=>rw[hkq] at heq;simp[Kd.ent] at heq
  ·simp at heq
 obtain ⟨w',l',cl',r1,r2,r3,r4⟩:=hrun (res τ (L.H f)) a w g _ l cl g1 c1 c2 q4 q5 hnok
 have hB:=(h.blk.world (h.blk.base.none_but r2 q2) (by rw[r2.size];exact Nat.le_refl _) (fun id e q he hb=>hb.away r2 (fun _=>q3 id e he) (fun id' e' he'=> .inl (q3 id' e' (res_some.1 he').2)))).list ils hna
 have r5:MapU (res τ (L.H f)) (entsOf ops L (listed.setIfInBounds i true)) l'.toList cl':=r4.perm' (by
  have:=ents_add (ops:=ops) (L:=L) ils h.lsz hnl
  rw[hk] at this
  exact this)
 have hsi:s≠i:=fun e=>by have:=hd.ks;rw[e,hk] at this;cases this
 obtain ⟨os,o1,o2,_⟩:=hd.dst
 have slot:(a.put o.dst undef).tmps.getD m0 undef= .map (some g):=by rw[Inv.put_getD hD hi hdst undef o1 hsi o2];exact g1
 have hxv: ∀ {H:Hp} {τ:Sg},conc (res τ H) (L.V i)=some undef:=fun {_ _}=>by rw[hv];rfl
 by_cases hp:Pend ops L (listed.setIfInBounds i true)
 ·refine ⟨hF.defer,w',τ,r1,h.next hD hi hed hdst hB (fun _ _=>Sg.le_refl _) (fun _=>hxv) fun s' m' b2 f' ty' hd' hls=>?_⟩
  obtain ⟨rfl,rfl,rfl,rfl⟩:=hd.uniq hd'
  exact ⟨g,slot, .inr ⟨hp,by rw[r2.size];exact q1,q2,q3,l',cl',r3,r5⟩⟩
 ·obtain ⟨df,kf,yf,esf,hkf⟩:=hd.kf
  have hmk:(L.K f).mk b (.umap (esf++[(kf,yf)])):=by rw[hkf];exact ⟨rfl,rfl,rfl⟩
  obtain ⟨m1,m2,m3⟩:=hL.mks hd.flt hmk
  obtain ⟨d1,⟨q,d2⟩,d3⟩:=h.blk.due b _ (.inr (.inr ⟨f,hd.flt,by rw[hkf];trivial,hmk,hpend⟩))
  have hgl: ∀ {q:Nat},Good ops L (listed.setIfInBounds i true) q b↔Good ops L listed q b:=good_list ils fun hw=>absurd (Kd.wr_acts hw) hna
  rw[ents_all hd hp hkf] at r5
  have hB2:=hB.put hL (e:=⟨g,0,0⟩) hd.flt hmk d1 (fun ob' hdu=>?_) ⟨q,hgl.2 d2⟩ (fun q hq=>d3 q (hgl.1 hq)) ⟨l',cl',r3,r5⟩ (by rw[r2.size];exact q1) q2 (fun id x hx=>q3 id x hx)
  ·refine ⟨hF.defer,w',_,r1,h.next hD hi hed hdst hB2 (fun q _=>res_put d1 _) (fun _=>hxv) fun s' m' b2 f' ty' hd' hls=>?_⟩
   obtain ⟨rfl,rfl,rfl,rfl⟩:=hd.uniq hd'
   exact ⟨g,slot, .inl ⟨hp,⟨g,0,0⟩,Sg.put_self τ _ _,rfl⟩⟩
  ·rcases hdu with ⟨_,u2,u3⟩|⟨k,vf',u1,u2,u3⟩|⟨k,u1,u2,u3,u4⟩
   ·have:=hL.free (Nat.zero_le f) (Nat.le_of_lt hd.flt) m2
    rw[hL.atH,u2] at this;exact u3 this
   ·have:=hL.mkId u1 hd.flt (ob:=ob') (by rw[u2];exact ⟨rfl,rfl⟩) hmk
    subst this;rw[hkf] at u2;cases u2
   ·exact hp u4
theorem Inv.step(h:Inv ops L σ0 H0 pr w0 N ds listed τ a w){i:Nat}{o:Oper}(hi:ops[i]? =some o)(hnl: ¬Li listed i)(hed: ∀e∈o.after,Region.binds .any e=true→Li listed e.on)(hdst:DstIn a.tmps.size o)
 (r:Option Nat) (n:Nat) (Q:Exit→Act→World→Prop) {K:Act→World→Prop} (hK: ∀τ a' w',Inv ops L σ0 H0 pr w0 N ds (listed.setIfInBounds i true) τ a' w'→K a' w'):wpOpIn (fw r) n P ops Q i K a w:=by
 have hlt:=getElem?_lt hi
 have ils:i<listed.size:=by rw[h.lsz];exact hlt
 obtain ⟨hW,hE⟩:=hL.ent i o (Nat.zero_le _) hi
 have calm: ∀ {x:Value}, ¬(L.K i).acts→ ¬(L.K i).isFill→(∀b,L.K i≠ .lit b)→conc (res τ (L.H i)) (L.V i)=some x→Inv ops L σ0 H0 pr w0 N ds (listed.setIfInBounds i true) τ (a.put o.dst x) w:=fun {x} h1 h2 h3 hx=>
  h.next hD hi hed hdst (h.blk.list ils h1) (fun _ _=>Sg.le_refl _) (fun _=>conc_mono (res_mono hL (Nat.le_succ i) hlt) _ _ hx) (h.keepLit hD hi hdst x h2 h3 (fun _ _=>Sg.le_refl _) (Nat.le_refl _) fun f g hg=>⟨rfl,hg.2.2.1⟩)
 unfold wpOpIn
 rw[hi]
 simp only
 cases hk:L.K i with
 |skip=>
  rw[hk] at hE
  obtain ⟨e1,e2,e3⟩:=hE
  rw[h.wanted hL hD hC hi hnl hed e3]
  exact ⟨fun _ _=>trivial,hK _ _ _ (calm (by rw[hk];exact id) (by rw[hk];exact id) (by rw[hk];simp) (x:=undef) (by rw[e2];rfl))⟩
 |pure=>
  rw[hk] at hE
  obtain ⟨e1,e2,e3⟩:=hE
  rw[h.wanted hL hD hC hi hnl hed e2,if_pos rfl]
  obtain ⟨x,x1,x2⟩:=e3.2 _ a (h.odW hL hD hC hi hnl hed (by rw[hk];exact id))
  refine Oper.wpIn_mono (fun a' w' ⟨y,y1,y2⟩=>?_) ((opRun_value (r:=r) (post:=fun y u=>y=x∧u=w) e3.1 (x2 w) ⟨rfl,rfl⟩) n Q)
  obtain ⟨rfl,rfl⟩:=y2
  subst y1
  exact hK _ _ _ (calm (by rw[hk];exact id) (by rw[hk];exact id) (by rw[hk];simp) x1)
 |read bk=>
  rw[hk] at hE
  obtain ⟨e1,e2,e3,_⟩:=hE
  rw[h.wanted hL hD hC hi hnl hed e2,if_pos rfl]
  obtain ⟨x,x1,x2⟩:=h.seen hL hD hC hi hnl hed hk
  refine Oper.wpIn_mono (fun a' w' ⟨y,y1,y2⟩=>?_) ((opRun_value (r:=r) (post:=fun y u=>y=x∧u=w) e3.1 x2 ⟨rfl,rfl⟩) n Q)
  obtain ⟨rfl,rfl⟩:=y2
  subst y1
  exact hK _ _ _ (calm (by rw[hk];exact id) (by rw[hk];exact id) (by rw[hk];simp) x1)
 |make ob b vf=>
  rw[hk] at hE
  obtain ⟨e1,e2,e3,e4,e5,e6⟩:=hE
  rw[h.wanted hL hD hC hi hnl hed e5,if_pos rfl]
  obtain ⟨x,w1,e,x1,x2,x3⟩:=e6.2 _ a w (h.odW hL hD hC hi hnl hed (by rw[hk];exact id))
  refine Oper.wpIn_mono (fun a' w' ⟨y,y1,y2⟩=>?_) ((opRun_value (r:=r) (post:=fun y u=>y=x∧u=w1) e6.1 x1 ⟨rfl,rfl⟩) n Q)
  obtain ⟨rfl,rfl⟩:=y2
  subst y1
  exact hK _ _ _ (h.make hL hD hC hi hnl hed hdst hk x2 x3)
 |lit b=>
  rw[hk] at hE
  obtain ⟨e1,e2,e3,e4,e5,_⟩:=hE
  rw[h.wanted hL hD hC hi hnl hed e4,if_pos rfl]
  obtain ⟨x,w1,e,x1,x2,x3⟩:=e5.2 _ a w (h.odW hL hD hC hi hnl hed (by rw[hk];exact id))
  refine Oper.wpIn_mono (fun a' w' ⟨y,y1,y2⟩=>?_) ((opRun_value (r:=r) (post:=fun y u=>y=x∧u=w1) e5.1 x1 ⟨rfl,rfl⟩) n Q)
  obtain ⟨rfl,rfl⟩:=y2
  subst y1
  exact hK _ _ _ (h.lit hL hD hC hi hnl hed hdst hk x2 x3)
 |fill last b d key x es=>
  rw[hk] at hE
  rw[h.wanted hL hD hC hi hnl hed hE.2.2.2.1,if_pos rfl]
  obtain ⟨x1,w1,τ1,x2,x3⟩:=h.fill hL hD hC hi hnl hed hdst hk
  refine Oper.wpIn_mono (fun a' w' ⟨y,y1,y2⟩=>?_) ((opRun_skip (r:=r) (post:=fun y u=>y=undef∧u=w1) x1 x2 ⟨rfl,rfl⟩) n Q)
  obtain ⟨rfl,rfl⟩:=y2
  subst y1
  exact hK _ _ _ x3
 |store b=>
  rw[hk] at hE
  rw[h.wanted hL hD hC hi hnl hed hE.2.1,if_pos rfl]
  obtain ⟨x1,w1,e,x2,x3,x4,x5⟩:=h.blk.store hL hD h.closed hi hnl hed h.lsz hk (h.odW hL hD hC hi hnl hed (by rw[hk];exact id))
  refine Oper.wpIn_mono (fun a' w' ⟨y,y1,y2⟩=>?_) ((opRun_skip (r:=r) (post:=fun y u=>y=undef∧u=w1) x1 x2 ⟨rfl,rfl⟩) n Q)
  obtain ⟨rfl,rfl⟩:=y2
  subst y1
  exact hK _ _ _ (h.next hD hi hed hdst x5 (fun _ _=>Sg.le_refl _) (fun _=>by rw[hE.1];rfl) (h.keepLit hD hi hdst _ (by rw[hk];exact id) (by rw[hk];simp) (fun _ _=>Sg.le_refl _) (by rw[x4.size];exact Nat.le_refl _) fun f g hg=>⟨x4.same g (hg.2.2.1 b e x3).symm,hg.2.2.1⟩))
 |act=>
  rw[hk] at hE
  rw[h.wanted hL hD hC hi hnl hed hE.1,if_pos rfl]
  have:=h.blk.act hL hD h.closed hi hnl hed h.lsz hk (h.odW hL hD hC hi hnl hed (by rw[hk];exact id)) (Q:=fun g=> ∃f,Ghost ops L listed pr τ w f g) (fun g ⟨f,hg⟩=>⟨hg.1,hg.2.2.1⟩) r
  refine Oper.wpIn_mono (fun a' w' ⟨y,y1,τ',z1,z2,z3,z4,z5⟩=>?_) (this n Q)
  subst y1
  exact hK _ _ _ (h.next hD hi hed hdst z1 z2 (fun _=>z3) (h.keepLit hD hi hdst _ (by rw[hk];exact id) (by rw[hk];simp) z2 z5 fun f g hg=>z4 g ⟨f,hg⟩))
end inv
end drawn
end Go.Ev
namespace Go.Ev
section drawn
variable {P:Program} {ops:Array Oper} {bl:List Nat} {F:Fs} {C:Ctx} {W0:Wd} {H0:Hp} {L:Lg}
def todo(listed:Array Bool):Nat:=(listed.toList.filter (! ·)).length
theorem todo_set{listed:Array Bool}{i:Nat}(hi:i<listed.size)(hn: ¬Li listed i):todo (listed.setIfInBounds i true)+1=todo listed:=by
 have key: ∀(l:List Bool) (i:Nat),l[i]? =some false→((l.set i true).filter (! ·)).length+1=(l.filter (! ·)).length:=by
  intro l
  induction l with
  |nil=>intro i h;simp at h
  |cons x l ih=>
   intro i h
   cases i with
   |zero=>simp at h;subst h;simp
   |succ i=>
    simp at h
    have:=ih i h
    cases x <;> simp at this ⊢ <;> omega
 unfold todo
 rw[Array.toList_setIfInBounds]
 refine key _ i ?_
 unfold Li at hn
 rw[Array.getElem?_toList,Array.getElem?_eq_getElem hi] at*
 cases hb:listed[i] with
 |true=>rw[hb] at hn;exact absurd rfl hn
 |false=>rfl
theorem todo_pos{listed:Array Bool}{i:Nat}(hi:i<listed.size)(hn: ¬Li listed i):0<todo listed:=by have:=todo_set hi hn;omega
theorem ready_li{listed:Array Bool}(_hsz:listed.size=ops.size){i:Nat}(h:i∈Region.ready .any ops listed): ∃o,ops[i]? =some o∧ ¬Li listed i∧ ∀e∈o.after,Region.binds .any e=true→Li listed e.on:=by
 obtain ⟨h1,o,ho,h2⟩:=mem_ready.1 h
 refine ⟨o,ho,fun hl=>?_,fun e he hb=>?_⟩
 ·unfold Li at hl
  rw[Array.getD_eq_getD_getElem?,hl] at h1;cases h1
 ·have:=h2 e he hb
  rw[Array.getD_eq_getD_getElem?] at this
  unfold Li
  cases hx:listed[e.on]? with
  |none=>rw[hx] at this;cases this
  |some b=>rw[hx] at this;simp at this;rw[this]
theorem none_ready(hD:Drawn ops bl){listed:Array Bool}(hsz:listed.size=ops.size)(h:Region.ready .any ops listed=[]): ∀i,i<ops.size→Li listed i:=by
 intro i
 induction i using Nat.strongRecOn with
 |_ i ih=>
  intro hi
  by_cases hl:Li listed i
  ·exact hl
  ·have:i∈Region.ready .any ops listed:=mem_ready.2 ⟨by
    rw[Array.getD_eq_getD_getElem?]
    unfold Li at hl
    have h1:i<listed.size:=by omega
    rw[Array.getElem?_eq_getElem h1] at hl ⊢
    cases hb:listed[i] with
    |true=>rw[hb] at hl;exact absurd rfl hl
    |false=>rfl,ops[i],Array.getElem?_eq_getElem hi,fun e he hb=>by
    have h1:=hD.edge i _ (Array.getElem?_eq_getElem hi) e he hb
    have h2:=ih e.on h1 (by omega)
    unfold Li at h2
    rw[Array.getD_eq_getD_getElem?,h2];rfl⟩
   rw[h] at this;cases this
theorem drawn_run(hL:LgOk P ops bl F C 0 W0 H0 L)(hD:Drawn ops bl)(hC:C.ms=none){σ0:Sg}{pr:Nat→Prop}{w0:World}{N:Nat}{ds:List Deferred}(hdst: ∀o∈ops,DstIn N o)(r:Option Nat)(n:Nat){Q:Exit→Act→World→Prop}
 (hQ: ∀τ a w,(∀t v,L.W ops.size t=some v→conc τ v=some (a.tmps.getD t undef))→Grows σ0 H0 τ (L.H ops.size)→Sim pr w0 τ (L.H ops.size) w→a.tmps.size=N→a.defers=ds→Q .normal a w) (h0: ∀id e,σ0 id=some e→hget H0 id≠ .free):
 ∀(fuel:Nat) (listed:Array Bool) (τ:Sg) (a:Act) (w:World),Inv ops L σ0 H0 pr w0 N ds listed τ a w→todo listed≤fuel→wpAnyIn (fw r) n P .any ops Q fuel listed a w:=by
 have fin: ∀(listed:Array Bool) (τ:Sg) (a:Act) (w:World),Inv ops L σ0 H0 pr w0 N ds listed τ a w→Region.ready .any ops listed=[]→Q .normal a w:=fun listed τ a w h hr=>by
  have hall:=none_ready hD h.lsz hr
  have hgood: ∀id,hget (L.H ops.size) id≠ .free→Good ops L listed ops.size id:=fun id hn=>⟨Nat.le_refl _,fun j hj _ _=>⟨fun _=>hj,fun _=>hall j hj⟩,hn⟩
  have hst:=hL.stays (Nat.zero_le ops.size) (Nat.le_refl _)
  rw[hL.atH] at hst
  refine hQ (res τ (L.H ops.size)) a w (fun t v hv=>?_) ⟨fun id e he=>?_,fun id hid hf=>?_,hst⟩ (h.blk.sim hL hD hgood) h.size h.defers
  ·exact h.reads hL hD hC (i:=ops.size) (Nat.le_refl _) (fun hl=>by
    unfold Li at hl
    have:=getElem?_lt hl
    rw[h.lsz] at this;omega) (look:=fun _=>True) (fun k o t hk hok hd _=>hall k hk) (fun k o t hk hok hd _=>by have:=getElem?_lt hok;omega)
    (fun s m b f ty hd _=>⟨fun ⟨j,j1,j2,j3⟩=>j3 (hall j j1),hd.flt⟩) trivial hv
  ·exact res_some.2 ⟨hst id (h0 id e he),h.blk.le id e he⟩
  ·obtain ⟨h1,_,h3⟩:=h.blk.due id _ (.inl ⟨hid,rfl,hf⟩)
   exact ⟨res_none.2 (.inr h1),h3 _ (hgood id (hst id hf))⟩
 intro fuel
 induction fuel with
 |zero=>
  intro listed τ a w h ht
  have hr:Region.ready .any ops listed=[]:=by
   cases hc:Region.ready .any ops listed with
   |nil=>rfl
   |cons i rs=>
    obtain ⟨o,ho,hnl,_⟩:=ready_li (ops:=ops) h.lsz (i:=i) (by rw[hc];simp)
    have:=todo_pos (listed:=listed) (i:=i) (by rw[h.lsz];exact getElem?_lt ho) hnl
    omega
  exact ⟨hr,fin listed τ a w h hr⟩
 |succ fuel ih=>
  intro listed τ a w h ht
  refine ⟨fin listed τ a w h,fun i hi=>?_⟩
  obtain ⟨o,ho,hnl,hed⟩:=ready_li (ops:=ops) h.lsz hi
  have hsz:i<listed.size:=by rw[h.lsz];exact getElem?_lt ho
  have:=todo_set hsz hnl
  refine h.step hL hD hC ho hnl hed (by rw[h.size];exact hdst o (Array.mem_of_getElem? ho)) r n Q fun τ' a' w' h'=>ih _ τ' a' w' h' (by omega)
theorem Sim.drawn{pr:Nat→Prop}{w0 w:World}{σ:Sg}{H:Hp}(h:Sim pr w0 σ H w)(n:Nat):Sim pr w0 σ H {w with drawn:=n}:=
 h.more ⟨rfl,rfl,rfl,Nat.le_refl _,fun _ _=>rfl⟩
theorem InvB.init(hL:LgOk P ops bl F C 0 W0 H0 L){listed:Array Bool}(hnl: ∀j, ¬Li listed j){pr:Nat→Prop}{w0 w:World}{σ:Sg}(hs:Sim pr w0 σ H0 w):InvB ops L listed σ H0 pr w0 σ w:=by
 have good0: ∀ {id:Nat},hget H0 id≠ .free→Good ops L listed 0 id:=fun hn=>⟨Nat.zero_le _,fun j _ _ _=>⟨fun h=>absurd h (hnl j),fun h=>absurd h (Nat.not_lt_zero _)⟩,by rw[hL.atH];exact hn⟩
 have noE: ∀ {id:Nat} {e:En},σ id=some e→ ¬Early ops L listed id:=fun he ⟨j,j1,_,_,j4⟩=>by
  refine hL.stays (Nat.zero_le j) (Nat.le_of_lt j1) _ ?_ j4
  rw[hL.atH];exact hs.notFree he
 have mk: ∀ {k id:Nat} {ob:AO},k<ops.size→(L.K k).mk id ob→σ id=none∧(∃i,Good ops L listed i id)∧ ∀i,Good ops L listed i id→hget (L.H i) id=ob:=fun {k id ob} hk hmk=>by
  obtain ⟨m1,m2,m3⟩:=hL.mks hk hmk
  have hg:Good ops L listed (k+1) id:=⟨hk,fun j hj _ hn=>⟨fun h=>absurd h (hnl j),fun h=>absurd (hL.free (i:=j) (j:=k) (by omega) (by omega) m2) hn⟩,by rw[m3];exact m1.ne⟩
  refine ⟨hs.fresh ?_,⟨_,hg⟩,fun i hi=>by rw[hi.eq hL hg,m3]⟩
  have:=hL.free (Nat.zero_le k) (by omega) m2
  rwa [hL.atH] at this
 refine ⟨hs.none_of,Sg.le_refl σ,fun id e he=>⟨⟨0,good0 (hs.notFree he)⟩,hs.lies id e he⟩,fun id e i he hi=>?_,fun id id' x x' h1 h2 h3 h4=>?_,fun id e he hE=>absurd hE (noE he),fun id ob hd=>?_⟩
 ·rw[hi.eq hL (good0 (hs.notFree he)),hL.atH]
  refine (hs.dom id e he).mono (Sg.le_trans ?_ (res_mono hL (Nat.zero_le i) hi.1))
  rw[hL.atH,hs.res_eq]
  exact Sg.le_refl σ
 ·rcases h4 with h4|⟨h4,h5⟩
  ·exact absurd h4 (noE h1)
  ·have p1:=h4 0 (good0 (hs.notFree h1))
   have p2:=h5 0 (good0 (hs.notFree h2))
   rw[hL.atH] at p1 p2
   exact hs.inj id id' x x' h1 h2 p1 p2 h3
 ·rcases hd with ⟨d1,d2,d3⟩|⟨k,vf,d1,d2,_⟩|⟨k,d1,_,d2,_⟩
  ·have hn:hget H0 id≠ .free:=by rw[d2];exact d3
   exact ⟨d1,⟨0,good0 hn⟩,fun i hi=>by rw[hi.eq hL (good0 hn),hL.atH,d2]⟩
  ·exact mk d1 (by rw[d2];exact ⟨rfl,rfl⟩)
  ·exact mk d1 d2
theorem prepD_region{X:Nat→Option Call}(hX:XSound P X)(hF:FSound P F)(hm:P.follows .mixedOrders=true){live:Nat}{T:Tr AV}{H:Hp}{k:KN}(hd:drawnOk ops (Region.before ops).toList=true)
 (hk:(prepD P X live ops ops.toList (Region.before ops).toList 0 ⟨[],0⟩).run F ⟨[],[],none⟩ ⟨T,[]⟩ H k=true): ∃T' H',k T' H'=true∧Stays H H'∧
   ∀(r:Option Nat) (pr:Nat→Prop) (w0:World) (σ:Sg) (a:Act) (w:World),(∀o∈ops,DstIn a.tmps.size o)→FrameR σ live T a.tmps→Sim pr w0 σ H w→
    ∀(id n:Nat) (Q:Exit→Act→World→Prop),(∀(τ:Sg) (a':Act) (w':World),a'.tmps.size=a.tmps.size→a'.defers=a.defers→Grows σ H τ H'→FrameR τ live T' a'.tmps→Sim pr w0 τ H' w'→Q .normal a' w')→
     (Code.region id ops true).wpIn (fw r) n P Q a w:=by
 have hD:=drawnOk_spec hd
 obtain ⟨L,T',q1,q2,hL⟩:=prepD_sound hX hF ops (Region.before ops).toList live ops.toList (Region.before ops).toList 0 ⟨[],0⟩ ⟨T,[]⟩ H ⟨[],[],none⟩ k rfl rfl (by rw[hD.len];simp) (by intro t w hw;cases hw) hk
 refine ⟨T',_,q1,by have:=hL.stays (Nat.zero_le ops.size) (Nat.le_refl _);rwa [hL.atH] at this,fun r pr w0 σ a w hdst hfr hs id n Q hQ=>?_⟩
 refine wpIn_region_any hm (drawn_run hL hD rfl (σ0:=σ) (pr:=pr) (w0:=w0) (N:=a.tmps.size) (ds:=a.defers) hdst r n (fun τ a' w' h1 h2 h3 h4 h5=>hQ τ a' w' h4 h5 h2 (fun t ht=>h1 t _ (q2 t ht)) h3) (fun _ _ he=>hs.notFree he) ops.size _ σ a _ ?_ ?_)
 ·have hnl: ∀j, ¬Li (Array.replicate ops.size false) j:=fun j hl=>by
   unfold Li at hl
   rw[Array.getElem?_replicate] at hl
   split at hl <;> cases hl
  have hsd:=hs.drawn (w.drawn+1)
  refine ⟨by simp,fun j o _ hl=>absurd hl (hnl j),InvB.init hL hnl hsd,fun k o t _ _ hl=>absurd hl (hnl k),fun t v hv _=>?_,fun s m b f t _ hl=>absurd hl (hnl s),rfl,rfl⟩
  rw[hL.atH,hs.res_eq]
  rw[hL.atW] at hv
  simp only[slotW,rgSlot,whFind] at hv
  rw[bc_eq] at hv
  split at hv
  ·rename_i hl
   simp at hv
   subst hv
   exact hfr t hl
  ·cases hv
 ·unfold todo
  simp
end drawn
end Go.Ev
namespace Go.Ev
def exOf:Option Nat→Exit
 |none=> .ret
 |some id=> .exit id
def mkD(m:Nat):Deferred:= {target:= .collected m,args:= #[]}
structure Mk (pr:Nat→Prop) (σ:Sg) (w:World) (ms:List Nat):Prop where
 at_: ∀m∈ms,w.heap[m]? =some (.deferred (some []))
 npr: ∀m∈ms, ¬pr m
 out: ∀m∈ms, ∀id e,σ id=some e→e.blk≠m
 nodup:ms.Nodup
structure St (pr:Nat→Prop) (w0:World) (σ:Sg) (live N:Nat) (T:Tr AV) (H:Hp) (a:Act) (w:World) (ms:List Nat):Prop where
 size:a.tmps.size=N
 frame:FrameR σ live T a.tmps
 sim:Sim pr w0 σ H w
 mark:Mk pr σ w ms
 defers:a.defers=ms.map mkD
def CodeSpec(P:Program)(c:Code)(N live:Nat)(T:Tr AV)(H:Hp)(e:Exit)(T':Tr AV)(H':Hp):Prop:=
 Stays H H'∧ ∀(r:Option Nat),(r.isSome=true→noRF c=true)→ ∀(pr:Nat→Prop) (w0:World) (σ:Sg) (a:Act) (w:World) (ms:List Nat),St pr w0 σ live N T H a w ms→
  ∀(n:Nat) (Q:Exit→Act→World→Prop),(∀τ a' w' ms',Grows σ H τ H'→St pr w0 τ live N T' H' a' w' ms'→Q e a' w')→c.wpIn (fw r) n P Q a w
def CShows(P:Program)(c:Code)(N live:Nat)(B:CB)(F:Fs):Prop:= ∀(T:Tr AV) (H:Hp) (kx:KX) (k:KN),B.run F kx T H k=true→
 (∃T' H',k T' H'=true∧CodeSpec P c N live T H .normal T' H')∨(∃e T' H',kx e T' H'=true∧CodeSpec P c N live T H (exOf e) T' H')
section
variable {P:Program} {X:Nat→Option Call} {F:Fs} {N live:Nat}
theorem Mk.rebase{pr:Nat→Prop}{w0 w:World}{σ:Sg}{H:Hp}{ms:List Nat}(h:Mk pr σ w ms)(hs:Sim pr w0 σ H w):Sim (fun b=>pr b∨b∈ms) w σ H w:=
 hs.rebase fun b hb=>⟨getElem?_lt (h.at_ b hb),h.out b hb⟩
theorem Mk.back{pr:Nat→Prop}{w w':World}{σ τ:Sg}{H':Hp}{ms:List Nat}(h:Mk pr σ w ms)(k:Sim (fun b=>pr b∨b∈ms) w τ H' w'):Mk pr τ w' ms:=
 ⟨fun m hm=>(k.prot m (.inr hm)).2.trans (h.at_ m hm),h.npr,fun _m hm id e he eq=>(k.lies id e he).2 (.inr (eq▸hm)),h.nodup⟩
theorem spec_of_reg{c:Code}{T T':Tr AV}{H H':Hp}(hst:Stays H H')
 (h: ∀(r:Option Nat) (pr:Nat→Prop) (w0:World) (σ:Sg) (a:Act) (w:World),a.tmps.size=N→FrameR σ live T a.tmps→Sim pr w0 σ H w→
   ∀(n:Nat) (Q:Exit→Act→World→Prop),(∀(τ:Sg) (a':Act) (w':World),a'.tmps.size=a.tmps.size→a'.defers=a.defers→Grows σ H τ H'→FrameR τ live T' a'.tmps→Sim pr w0 τ H' w'→Q .normal a' w')→c.wpIn (fw r) n P Q a w):
 CodeSpec P c N live T H .normal T' H':=
 ⟨hst,fun r _ _pr _w0 σ a w ms hs n Q hQ=>h r _ w σ a w hs.size hs.frame (hs.mark.rebase hs.sim) n Q fun τ a' w' h1 h2 h3 h4 h5=>
  hQ τ a' w' ms h3 ⟨h1.trans hs.size,h4,hs.sim.back h5,hs.mark.back h5,h2.trans hs.defers⟩⟩
theorem CodeSpec.skip{c:Code}(h: ∀ {F:Fence} {n:Nat} {Q:Exit→Act→World→Prop} {a:Act} {w:World},Q .normal a w→c.wpIn F n P Q a w)(T:Tr AV)(H:Hp):CodeSpec P c N live T H .normal T H:=
 ⟨Stays.refl H,fun _r _ _pr _w0 σ a w ms hs _n _Q hQ=>h (hQ σ a w ms (Grows.refl σ H) hs)⟩
theorem CodeSpec.seq{x y:Code}{T T1 T':Tr AV}{H H1 H':Hp}{e:Exit}(h:CodeSpec P x N live T H .normal T1 H1)(k:CodeSpec P y N live T1 H1 e T' H'):CodeSpec P (.seq x y) N live T H e T' H':=
 ⟨h.1.trans k.1,fun r hr pr w0 σ a w ms hs n Q hQ=>wpIn_seq (h.2 r (fun e=>by have:=hr e;simp[noRF] at this;exact this.1) pr w0 σ a w ms hs n _ fun τ a1 w1 ms1 g1 s1=>
  k.2 r (fun e=>by have:=hr e;simp[noRF] at this;exact this.2) pr w0 τ a1 w1 ms1 s1 n Q fun υ a2 w2 ms2 g2 s2=>hQ υ a2 w2 ms2 (g1.trans g2) s2)⟩
theorem CodeSpec.seqX{x y:Code}{T T':Tr AV}{H H':Hp}{e:Option Nat}(h:CodeSpec P x N live T H (exOf e) T' H'):CodeSpec P (.seq x y) N live T H (exOf e) T' H':=
 ⟨h.1,fun r hr pr w0 σ a w ms hs n Q hQ=>wpIn_seq (h.2 r (fun e=>by have:=hr e;simp[noRF] at this;exact this.1) pr w0 σ a w ms hs n _ fun τ a1 w1 ms1 g1 s1=>by
  have:=hQ τ a1 w1 ms1 g1 s1
  cases e <;> exact this)⟩
theorem liveOd_conc{σ:Sg}{T:Tr AV}{a:Act}(h:FrameR σ live T a.tmps){x:Operand}{d:Od}(hd:liveOd live x=some d):conc σ (evd ⟨T,[]⟩ d)=some (a.eval x):=by
 unfold liveOd at hd
 split at hd
 ·rename_i t
  rw[bc_eq] at hd
  split at hd
  ·rename_i hl
   obtain rfl:=Option.some.inj hd
   exact h t hl
  ·cases hd
 ·obtain ⟨v,rfl,hv⟩:=constOd_some hd
  exact hv σ a
theorem CodeSpec.cond{c:Operand}{x y:Code}{T T':Tr AV}{H H':Hp}{e:Exit}{d:Od}(hd:liveOd live c=some d){b:Bool}(hb:evd ⟨T,[]⟩ d= .bool b)(h:CodeSpec P (if b then x else y) N live T H e T' H'):CodeSpec P (.cond c x y) N live T H e T' H':=
 ⟨h.1,fun r hr pr w0 σ a w ms hs n Q hQ=>wpIn_cond (t:=b) (by have:=liveOd_conc hs.frame hd;rw[hb] at this;exact conc_bool this)
  (h.2 r (fun e=>by have:=hr e;simp[noRF] at this;cases b <;> simp <;> first|exact this.2|exact this.1) pr w0 σ a w ms hs n Q hQ)⟩
theorem CodeSpec.block{id:Nat}{c:Code}{T T':Tr AV}{H H':Hp}{e e':Exit}(h:CodeSpec P c N live T H e T' H')(he: ∀(Q:Exit→Act→World→Prop) a w,Q e' a w→Exit.inBlock id Q e a w):CodeSpec P (.block id c) N live T H e' T' H':=
 ⟨h.1,fun r hr pr w0 σ a w ms hs n Q hQ=>wpIn_block (h.2 r (fun e=>by have:=hr e;simpa[noRF] using this) pr w0 σ a w ms hs n _ fun τ a1 w1 ms1 g1 s1=>he Q a1 w1 (hQ τ a1 w1 ms1 g1 s1))⟩
theorem wpIn_loopJ{G:Fence}{n:Nat}{Q:Exit→Act→World→Prop}{a:Act}{w:World}{c:Code}(J:Nat→Act→World→Prop){j:Nat}(h0:J j a w)
 (round: ∀j a w,J j a w→c.wpIn G n P (Exit.then (fun a' w'=> ∃i,i<j∧J i a' w') Q) a w):(Code.loop c).wpIn G n P Q a w:=by
 intro b k cs hro hb hr
 have key: ∀j a w,J j a w→ ∃e a' w',Q e a' w'∧ArrivesIn (Machine.fenced P G) P (lone (b.atR a (.code c:: .inLoop c::k)) cs w) b k cs e a' w':=by
  intro j
  induction j using Nat.strongRecOn with
  |_ j ih=>
   intro a w hJ
   obtain ⟨e,a1,w1,hq,harr⟩:=round j a w hJ b (.inLoop c::k) cs hro hb hr
   cases e with
   |normal=>
    obtain ⟨i,hi,hJ1⟩:=hq
    obtain ⟨e2,a2,w2,hq2,harr2⟩:=ih i hi a1 w1 hJ1
    exact ⟨e2,a2,w2,hq2, .of_steps (StepsIn.trans harr (.one (fenced_calm hb hr rfl) stepR_inLoop)) harr2⟩
   |exit id=>exact ⟨_,a1,w1,hq, .pass (x:= .inLoop c) rfl (fun _ _=> .inl (by simp)) harr⟩
   |goto l=>exact ⟨_,a1,w1,hq, .pass (x:= .inLoop c) rfl (fun _ _=> .inl (by simp)) harr⟩
   |ret=>exact ⟨_,a1,w1,hq, .pass (x:= .inLoop c) rfl (fun _ _=> .inl (by simp)) harr⟩
   |panic ch=>exact ⟨_,a1,w1,hq, .pass (x:= .inLoop c) rfl (fun _ _=> .inl (by simp)) harr⟩
   |outgrown=>exact ⟨_,a1,w1,hq, .pass (x:= .inLoop c) rfl (fun _ _=> .inl (by simp)) harr⟩
 obtain ⟨e,a',w',hq,harr⟩:=key j a w h0
 exact ⟨e,a',w',hq, .of_steps (.one (fenced_calm hb hr rfl) stepR_loop) harr⟩
inductive Chain (P:Program) (c:Code) (N live:Nat):Nat→Tr AV→Hp→Option Nat→Tr AV→Hp→Prop
 |out {T T':Tr AV} {H H':Hp} {e:Option Nat}:CodeSpec P c N live T H (exOf e) T' H'→Chain P c N live 0 T H e T' H'
 |round {j:Nat} {T T1 T':Tr AV} {H H1 H':Hp} {e:Option Nat}:CodeSpec P c N live T H .normal T1 H1→Chain P c N live j T1 H1 e T' H'→Chain P c N live (j+1) T H e T' H'
theorem Chain.stays{c:Code}{j:Nat}{T T':Tr AV}{H H':Hp}{e:Option Nat}(h:Chain P c N live j T H e T' H'):Stays H H':=by
 induction h with
 |out h=>exact h.1
 |round h _ ih=>exact h.1.trans ih
theorem Chain.spec{c:Code}{j:Nat}{T T':Tr AV}{H H':Hp}{e:Option Nat}(h:Chain P c N live j T H e T' H'):CodeSpec P (.loop c) N live T H (exOf e) T' H':=by
 refine ⟨h.stays,fun r hr pr w0 σ a w ms hs n Q hQ=>?_⟩
 have hr':r.isSome=true→noRF c=true:=fun e=>by have:=hr e;simpa[noRF] using this
 refine wpIn_loopJ (fun j a w=> ∃τ T1 H1 ms1,Chain P c N live j T1 H1 e T' H'∧Grows σ H τ H1∧St pr w0 τ live N T1 H1 a w ms1) (j:=j) ⟨σ,T,H,ms,h,Grows.refl σ H,hs⟩ fun j a w ⟨τ,T1,H1,ms1,hc,hg,hst⟩=>?_
 cases hc with
 |out hx=>
  refine hx.2 r hr' pr w0 τ a w ms1 hst n _ fun υ a2 w2 ms2 g2 s2=>?_
  have:=hQ υ a2 w2 ms2 (hg.trans g2) s2
  cases e <;> exact this
 |round hx hc=>exact hx.2 r hr' pr w0 τ a w ms1 hst n _ fun υ a2 w2 ms2 g2 s2=>⟨_,Nat.lt_succ_self _,υ,_,_,ms2,hc,hg.trans g2,s2⟩
theorem loopN_sound{c:Code}{A:CB}(hA:CShows P c N live A F){kx:KX}: ∀(n:Nat) (T:Tr AV) (H:Hp),loopN A F kx n T H=true→ ∃e T' H',kx e T' H'=true∧CodeSpec P (.loop c) N live T H (exOf e) T' H':=by
 have key: ∀(n:Nat) (T:Tr AV) (H:Hp),loopN A F kx n T H=true→ ∃j e T' H',kx e T' H'=true∧Chain P c N live j T H e T' H':=by
  intro n
  induction n with
  |zero=>intro T H h;exact absurd h Bool.false_ne_true
  |succ n ih=>
   intro T H h
   have h':A.run F kx T H (loopN A F kx n)=true:=h
   rcases hA T H kx _ h' with ⟨T1,H1,h1,h2⟩|⟨e,T1,H1,h1,h2⟩
   ·obtain ⟨j,e,T',H',h3,h4⟩:=ih T1 H1 h1
    exact ⟨j+1,e,T',H',h3, .round h2 h4⟩
   ·exact ⟨0,e,T1,H1,h1, .out h2⟩
 intro n T H h
 obtain ⟨j,e,T',H',h1,h2⟩:=key n T H h
 exact ⟨e,T',H',h1,h2.spec⟩
theorem run_enterLoop(fn:FuncId)(tmps:Array Value)(ps:Array Tmp)(assign body:Code)(w:World):(Instr.enterLoop fn tmps ps assign body none).run P w=
 .ok (w.heap.size+1,[mkD w.heap.size]) {w with heap:=(w.heap.push (.deferred (some []))).push (.loop {state:= .ready,pending:=none,fn,tmps,params:=ps,assign,body,defers:=w.heap.size})}:=by
 simp only[Instr.enterLoop,Sem.run_bind,newObj,Sem.run,Result.andThen_ok,Sem.run_pure,Array.size_push]
 rfl
theorem more_push2(w:World)(x y:Obj):More w {w with heap:=(w.heap.push x).push y}:=
 ⟨rfl,rfl,rfl,by simp;omega,fun k hk=>by simp only[Array.getElem?_push];rw[if_neg (by simp;omega),if_neg (by omega)]⟩
theorem rangeFunc_sound(hF:FSound P F){g:Operand}{ps:Array Tmp}{assign body:Code}{d:Od}(hd:liveOd live g=some d)(hsl:slotsIn N (.rangeFunc g ps assign body)=true)(hnr:(noRF assign&&noRF body)=true):
 CShows P (.rangeFunc g ps assign body) N live ⟨rRange (isGo P) N live d ps.toList assign body⟩ F:=fun T H kx k hk=>by
 obtain ⟨b,hb,hk1⟩:=halloc_true hk
 obtain ⟨f,first,captured,hv,hk2⟩:=asFn_true hk1
 have hk3:fnId f (callVd (isGo P) F (lapp first (.fn (.yield b) [] []::captured)) (hallocK H (.loop ⟨N,live,T,ps.toList,assign,body,none⟩) b) (rangeD b kx T k)) (fun _=>false)=true:=hk2
 rcases fnId_true hk3 with ⟨f,rfl,hk4⟩|⟨l,rfl,hk4⟩
 ·obtain ⟨hgo,hk5⟩:=chk_iff.1 hk4
  obtain ⟨v,H2,hk6,hst,hsp⟩:=hF.func f _ _ _ hk5
  obtain ⟨l2,hl2,hk7⟩:=hloop_true hk6
  simp only[slotsIn,Bool.and_eq_true] at hsl
  obtain ⟨⟨hs1,hs2⟩,hs3⟩:=hsl
  obtain ⟨hn1,hn2⟩:=by simpa using hnr
  have main: ∀(e:Option (Option Nat)) (st:Option (Option (Option Nat))),l2.st=st→(st=none∧e=none∨ ∃j,st=some (some j)∧e=some j)→CodeSpec P (.rangeFunc g ps assign body) N live T H (match e with|none=> .normal|some j=>exOf j) T (hset H2 b .dead):=fun e st hst2 hcase=>by
   refine ⟨(stays_alloc (by simp)).trans (hst.trans (stays_set (by simp))),fun r hr pr w0 σ a w ms hs n Q hQ=>?_⟩
   have hrn:r=none:=by
    cases r with
    |none=>rfl
    |some x=>have:=hr rfl;simp[noRF] at this
   subst hrn
   refine wpIn_rangeFunc fun fn _=>?_
   have hg:=liveOd_conc hs.frame hd
   rw[hv] at hg
   obtain ⟨g',xs,ys,q1,q2,q3,q4⟩:=conc_fn hg
   simp only[concF,Option.some.injEq] at q1;subst q1
   let rec':Loop:= {state:= .ready,pending:=none,fn,tmps:=a.tmps,params:=ps,assign,body,defers:=w.heap.size}
   let w1:World:= {w with heap:=(w.heap.push (.deferred (some []))).push (.loop rec')}
   let en:En:=⟨w.heap.size+1,0,0⟩
   let σ1:Sg:=σ.put b en
   have hm:More w w1:=more_push2 w _ _
   have hw1d:w1.heap[w.heap.size]? =some (.deferred (some [])):=by
    show ((w.heap.push (.deferred (some []))).push (.loop rec'))[w.heap.size]? =_
    rw[Array.getElem?_push,if_neg (by simp),Array.getElem?_push_size]
   have hw1l:w1.heap[w.heap.size+1]? =some (.loop rec'):=by
    show ((w.heap.push (.deferred (some []))).push (.loop rec'))[w.heap.size+1]? =_
    rw[Array.getElem?_push,if_pos (by simp)]
   have hfresh:σ b=none:=hs.sim.fresh hb
   have hle:σ.le σ1:=Sg.le_put σ en hfresh
   have sim1:Sim pr w0 σ1 (hallocK H (.loop ⟨N,live,T,ps.toList,assign,body,none⟩) b) w1∧Grows σ H σ1 (hallocK H (.loop ⟨N,live,T,ps.toList,assign,body,none⟩) b):=by
    have hm1:=hs.sim.more (w':= {w with heap:=w.heap.push (.deferred (some []))}) (more_push w _)
    have hmm:More {w with heap:=w.heap.push (.deferred (some []))} w1:=more_push {w with heap:=w.heap.push (.deferred (some []))} (.loop rec')
    refine hm1.alloc hb hmm (e:=en) (by simp[en]) (getElem?_lt hw1l) ⟨rec',hw1l,?_⟩
    exact ⟨rfl,rfl,rfl,(hs.frame.mono hle),hs.size,hs2,hs3,fun p hp=>by have:=List.all_eq_true.1 hs1 p hp;exact of_decide_eq_true this,hn1,hn2,⟨rfl,rfl⟩⟩
   have hmk:Mk pr σ1 w1 (w.heap.size::ms):=by
    refine ⟨fun m hm'=>?_,fun m hm'=>?_,fun m hm' id e he=>?_,?_⟩
    ·rcases List.mem_cons.1 hm' with rfl|hm'
     ·exact hw1d
     ·exact (hm.same m (getElem?_lt (hs.mark.at_ m hm'))).trans (hs.mark.at_ m hm')
    ·rcases List.mem_cons.1 hm' with rfl|hm'
     ·intro hp;have h1:=(hs.sim.prot _ hp).1;have h2:=hs.sim.size;omega
     ·exact hs.mark.npr m hm'
    ·by_cases hib:id=b
     ·subst hib
      have:e=en:=by
       have h1:σ1 id=some en:=Sg.put_self σ id en
       rw[h1] at he;exact (Option.some.inj he).symm
      subst this
      rcases List.mem_cons.1 hm' with rfl|hm'
      ·simp[en]
      ·have:=getElem?_lt (hs.mark.at_ m hm');simp[en];omega
     ·have he':σ id=some e:=by
       have h1:σ1 id=σ id:=Sg.put_ne σ en hib
       rw[h1] at he;exact he
      rcases List.mem_cons.1 hm' with rfl|hm'
      ·have:=(hs.sim.lies id e he').1;omega
      ·exact hs.mark.out m hm' id e he'
    ·refine List.nodup_cons.2 ⟨fun hmem=>?_,hs.mark.nodup⟩
     have:=getElem?_lt (hs.mark.at_ _ hmem);omega
   have hreb:=hmk.rebase sim1.1
   have hargs:concL σ1 (lapp first (.fn (.yield b) [] []::captured))=some (xs++(.func (.yield (w.heap.size+1)) #[] #[]::ys)):=by
    rw[lapp_eq]
    refine concL_append (concL_mono hle _ _ q2) (concL_cons.2 ⟨_,_,rfl,?_,concL_mono hle _ _ q3⟩)
    have h1:σ1 b=some en:=Sg.put_self σ b en
    simp[conc,concF,concL,h1,en]
   have hcall:=hsp _ w1 σ1 w1 _ hargs hreb
   refine ⟨w.heap.size+1,[mkD w.heap.size],w1,⟨.fn (.func f) ys.toArray,xs.toArray++ #[.func (.yield (w.heap.size+1)) #[] #[]]⟩,w1,f,(xs++(.func (.yield (w.heap.size+1)) #[] #[]::ys)).toArray,w1,run_enterLoop ..,?_,fun _ _=>trivial,?_,fw_depth none n,?_⟩
   ·have hmap:(rangeCall g (w.heap.size+1)).args.map a.eval= #[.func (.yield (w.heap.size+1)) #[] #[]]:=by simp[Act.eval]
    simp only[resolve,hmap,Deferred.ofValue,q4,Sem.run_pure]
   ·simp only[invoke]
    rw[isGo_some hgo]
    simp
   ·have hcin:CallsIn (fw none) (n-1) P f (xs++(.func (.yield (w.heap.size+1)) #[] #[]::ys)).toArray w1 (CallPost (fun b=>pr b∨b∈w.heap.size::ms) w1 σ1 (hallocK H (.loop ⟨N,live,T,ps.toList,assign,body,none⟩) b) v H2):=(callsIn_wide (n:=n-1)).2 hcall
    refine CallsIn.mono hcin fun en' w3 hpost=>?_
    obtain ⟨x,rfl,τ,g1,_,s3⟩:=callPost_ret hpost
    have htb:τ b=some en:=g1.le b en (Sg.put_self σ b en)
    have hbr:=s3.dom b en htb
    rw[hl2] at hbr
    obtain ⟨r2,hr2,hlr⟩:=hbr
    let w4:World:= {w3 with heap:=w3.heap.setIfInBounds (w.heap.size+1) (.loop {r2 with state:= .exhausted})}
    have hstate:(r2.state== .busy)=false∧r2.pending=(match e with|none=>none|some j=>some (jumpOf j)):=by
     have:=hlr.state
     rw[hst2] at this
     rcases hcase with ⟨rfl,rfl⟩|⟨j,rfl,rfl⟩
     ·simp only at this;rw[this.1,this.2];exact ⟨rfl,rfl⟩
     ·simp only at this;rw[this.1,this.2];exact ⟨rfl,rfl⟩
    have hend:(Instr.endLoop (w.heap.size+1)).run P w3= .ok r2.pending w4:=by
     have h1:=run_getObj (P:=P) (w:=w3) (b:=w.heap.size+1) hr2 (by simp)
     have h2:=run_setObj (P:=P) (w:=w3) (b:=w.heap.size+1) (.loop {r2 with state:= .exhausted}) hr2 (by simp)
     simp only[Instr.endLoop,Instr.getLoop,Sem.run_bind,h1,Result.andThen_ok,Sem.run_pure,hstate.1,Bool.false_eq_true,if_false,h2]
     rfl
    have hbut:=but_setObj w3 (w.heap.size+1) (.loop {r2 with state:= .exhausted})
    obtain ⟨k1,k2⟩:=s3.set (w':=w4) htb (by rw[hl2];simp) (o:= .dead) (by simp) hbut trivial (fun id x hx hne hbr=>hbr.but' hbut (fun l cl=>by rw[hr2];simp) hne)
    have hmk4:=hmk.back (k1)
    have hfin:St pr w0 τ live N T (hset H2 b .dead) {a with defers:=[mkD w.heap.size]++a.defers} w4 (w.heap.size::ms):=
     ⟨hs.size,(hs.frame.mono hle).mono g1.le,sim1.1.back k1,hmk4,by simp[hs.defers]⟩
    have hgr:Grows σ H τ (hset H2 b .dead):=(sim1.2.trans g1).trans k2
    have hq:=hQ τ _ w4 _ hgr hfin
    refine ⟨r2.pending,w4,hend,?_⟩
    rw[hstate.2]
    rcases hcase with ⟨rfl,rfl⟩|⟨j,rfl,rfl⟩
    ·exact hq
    ·cases j with
     |none=>exact wpIn_ret hq
     |some id=>exact wpIn_exit hq
  unfold rangeE at hk7
  split at hk7
  ·rename_i hst2
   exact .inl ⟨T,_,hk7,main none none hst2 (.inl ⟨rfl,rfl⟩)⟩
  ·rename_i e hst2
   exact .inr ⟨e,T,_,hk7,main (some e) _ hst2 (.inr ⟨e,rfl,rfl⟩)⟩
  ·cases hk7
 ·cases hk4
theorem region_sound(hX:XSound P X)(hF:FSound P F)(hm:P.follows .mixedOrders=true){id:Nat}{ops:Array Oper}{draw:Bool}(hsl:slotsIn N (.region id ops draw)=true):CShows P (.region id ops draw) N live ⟨rRegion (regionOB P X live ops draw)⟩ F:=fun T H kx k hk=>by
 have hdst: ∀ {M:Nat},M=N→ ∀o∈ops,DstIn M o:=fun hM o ho d hd=>by
  subst hM
  simp only[slotsIn] at hsl
  have:=List.all_eq_true.1 hsl o (by simpa using ho)
  rw[hd] at this
  exact of_decide_eq_true this
 have hk1:(regionOB P X live ops draw).run F ⟨T,[]⟩ H k=true:=hk
 unfold regionOB at hk1
 split at hk1
 ·obtain ⟨T',H',hk2,hst,hsp⟩:=prepOps_sound hX hF ops live ops.toList 0 ⟨[],0⟩ ⟨T,[]⟩ H k rfl (by intro t w hw;cases hw) hk1
  refine .inl ⟨T',H',hk2,spec_of_reg hst fun r pr w0 σ a w hsz hfr hs n Q hQ=>wpIn_region ?_⟩
  have:=hsp r pr w0 σ a w (hdst hsz) (RgR.start hfr) hs n Q hQ
  rwa [Array.length_toList, ←List.range_eq_range'] at this
 ·rw[bc_eq] at hk1
  split at hk1
  ·rename_i hd
   obtain ⟨T',H',hk2,hst,hsp⟩:=prepD_region hX hF hm hd hk1
   exact .inl ⟨T',H',hk2,spec_of_reg hst fun r pr w0 σ a w hsz hfr hs n Q hQ=>hsp r pr w0 σ a w (hdst hsz) hfr hs id n Q hQ⟩
  ·exact absurd hk1 Bool.false_ne_true
theorem prepC_sound(hX:XSound P X)(hF:FSound P F)(hm:P.follows .mixedOrders=true): ∀(c:Code),slotsIn N c=true→CShows P c N live (prepC P X N live c) F:=by
 have fail: ∀ {c:Code},CShows P c N live cfail F:=fun T H kx k hk=>absurd hk Bool.false_ne_true
 intro c
 induction c with
 |skip=>intro _ T H kx k hk;exact .inl ⟨T,H,hk, .skip (fun h=>wpIn_skip h) T H⟩
 |label l=>intro _ T H kx k hk;exact .inl ⟨T,H,hk, .skip (fun h=>wpIn_label h) T H⟩
 |seq x y ihx ihy=>
  intro hsl T H kx k hk
  simp only[slotsIn,Bool.and_eq_true] at hsl
  rcases ihx hsl.1 T H kx _ hk with ⟨T1,H1,h1,h2⟩|⟨e,T1,H1,h1,h2⟩
  ·rcases ihy hsl.2 T1 H1 kx k h1 with ⟨T2,H2,h3,h4⟩|⟨e,T2,H2,h3,h4⟩
   ·exact .inl ⟨T2,H2,h3,h2.seq h4⟩
   ·exact .inr ⟨e,T2,H2,h3,h2.seq h4⟩
  ·exact .inr ⟨e,T1,H1,h1,h2.seqX⟩
 |cond c x y ihx ihy=>
  intro hsl T H kx k hk
  simp only[slotsIn,Bool.and_eq_true] at hsl
  unfold prepC at hk
  split at hk
  ·rename_i d hd
   obtain ⟨b,hb,hk1⟩:=asBool_true hk
   cases b with
   |true=>
    rcases ihx hsl.1 T H kx k hk1 with ⟨T2,H2,h3,h4⟩|⟨e,T2,H2,h3,h4⟩
    ·exact .inl ⟨T2,H2,h3, .cond hd hb h4⟩
    ·exact .inr ⟨e,T2,H2,h3, .cond hd hb h4⟩
   |false=>
    rcases ihy hsl.2 T H kx k hk1 with ⟨T2,H2,h3,h4⟩|⟨e,T2,H2,h3,h4⟩
    ·exact .inl ⟨T2,H2,h3, .cond hd hb h4⟩
    ·exact .inr ⟨e,T2,H2,h3, .cond hd hb h4⟩
  ·exact fail T H kx k hk
 |block id c ih=>
  intro hsl T H kx k hk
  rcases ih (by simpa[slotsIn] using hsl) T H (kxBlk id kx k) k hk with ⟨T2,H2,h3,h4⟩|⟨e,T2,H2,h3,h4⟩
  ·exact .inl ⟨T2,H2,h3,h4.block fun Q a w h=>h⟩
  ·cases e with
   |none=>exact .inr ⟨none,T2,H2,h3,h4.block fun Q a w h=>h⟩
   |some j=>
    have h3':bc (Nat.beq j id) (k T2 H2) (kx (some j) T2 H2)=true:=h3
    rw[bc_eq] at h3'
    split at h3'
    ·rename_i hj
     obtain rfl:=beq_iff.1 hj
     exact .inl ⟨T2,H2,h3',h4.block fun Q a w h=>by simp only[exOf,Exit.inBlock,if_true];exact h⟩
    ·rename_i hj
     have hne:j≠id:=fun e=>hj (beq_iff.2 e)
     exact .inr ⟨some j,T2,H2,h3',h4.block fun Q a w h=>by simp only[exOf,Exit.inBlock,if_neg hne];exact h⟩
 |loop c ih=>
  intro hsl T H kx k hk
  obtain ⟨e,T',H',h1,h2⟩:=loopN_sound (ih (by simpa[slotsIn] using hsl)) 1000000 T H hk
  exact .inr ⟨e,T',H',h1,h2⟩
 |exit id=>
  intro _ T H kx k hk
  exact .inr ⟨some id,T,H,hk,Stays.refl H,fun r _ pr w0 σ a w ms hs n Q hQ=>wpIn_exit (hQ σ a w ms (Grows.refl σ H) hs)⟩
 |ret=>
  intro _ T H kx k hk
  exact .inr ⟨none,T,H,hk,Stays.refl H,fun r _ pr w0 σ a w ms hs n Q hQ=>wpIn_ret (hQ σ a w ms (Grows.refl σ H) hs)⟩
 |region id ops draw=>
  intro hsl
  exact region_sound hX hF hm hsl
 |rangeFunc g ps assign body iha ihb=>
  intro hsl
  unfold prepC
  split
  ·rename_i d hd
   rw[bc_eq]
   split
   ·rename_i hnr
    exact rangeFunc_sound hF hd hsl hnr
   ·exact fail
  ·exact fail
 |_=>intro _ T H kx k hk;exact absurd hk Bool.false_ne_true
end
end Go.Ev
namespace Go.Ev
section
variable {P:Program} {X:Nat→Option Call} {F:Fs}
theorem Sim.outside{pr:Nat→Prop}{w0 w w':World}{σ:Sg}{H:Hp}(h:Sim pr w0 σ H w){b:Nat}(m:But b w w')(hp: ¬pr b)(ho: ∀id e,σ id=some e→e.blk≠b)(hm: ∀l c,w.heap[b]? ≠some (.map l c)):Sim pr w0 σ H w' where
 size:=by rw[m.size];exact h.size
 os:=m.os.trans h.os
 tape:=m.tape.trans h.tape
 output:=m.output.trans h.output
 glob:=h.glob
 prot:=fun k hk=>⟨(h.prot k hk).1,(m.same k (fun e=>hp (e▸hk))).trans (h.prot k hk).2⟩
 dom:=fun id e he=>(h.dom id e he).but' m hm (fun _=>ho id e he)
 lies:=fun id e he=>by rw[m.size];exact h.lies id e he
 inj:=h.inj
theorem run_take{w:World}{m:Nat}(h:w.heap[m]? =some (.deferred (some []))):(Instr.takeDeferred m).run P w= .ok [] {w with heap:=w.heap.setIfInBounds m (.deferred none)}:=by
 have h1:=run_getObj (P:=P) (w:=w) (b:=m) h (by simp)
 have h2:=run_setObj (P:=P) (w:=w) (b:=m) (.deferred none) h (by simp)
 simp only[Instr.takeDeferred,Sem.run_bind,h1,Result.andThen_ok,h2,Sem.run_pure]
theorem leaves_marks{n:Nat}{fn:Func}{tmps:Array Value}{R:Ending→World→Prop}{pr:Nat→Prop}{w0:World}{σ:Sg}{H:Hp}
 (hR: ∀w,Sim pr w0 σ H w→ ∃v,(results fn tmps).run P w= .ok v w∧R (.returned v) w): ∀(ms:List Nat) (w:World),Sim pr w0 σ H w→Mk pr σ w ms→LeavesInM (fw none) n P fn tmps R (ms.map mkD) .returning w
 |[],w,hs,_=>hR w hs
 |m::ms,w,hs,hm=>by
  refine ⟨by simp, .inl ⟨m,{w with heap:=w.heap.setIfInBounds m (.deferred none)},rfl,run_take (hm.at_ m List.mem_cons_self),?_⟩⟩
  have hb:=but_setObj w m (.deferred none)
  have hnd:=List.nodup_cons.1 hm.nodup
  refine leaves_marks hR ms _ (hs.outside hb (hm.npr m List.mem_cons_self) (hm.out m List.mem_cons_self) (fun l c=>by rw[hm.at_ m List.mem_cons_self];simp)) ⟨fun k hk=>?_,fun k hk=>hm.npr k (List.mem_cons_of_mem _ hk),fun k hk=>hm.out k (List.mem_cons_of_mem _ hk),hnd.2⟩
  rw[hb.same k (fun e=>hnd.1 (e▸hk))]
  exact hm.at_ k (List.mem_cons_of_mem _ hk)
def RVR(P:Program):List RV→List ResultVar→Prop
 |[],[]=>True
 | .s p::l, .tmp t::r=>p=toP t∧RVR P l r
 | .c1 p::l, .cell a t::r=>p=toP a∧(∃n,aggO P t=some (false,n))∧RVR P l r
 | .cn p n::l, .cell a t::r=>p=toP a∧aggO P t=some (true,n)∧RVR P l r
 |_,_=>False
theorem prepRV_R: ∀ {l:List ResultVar} {rs:List RV},prepRV P l=some rs→RVR P rs l
 |[],rs,h=>by simp[prepRV] at h;subst h;trivial
 | .tmp t::l,rs,h=>by
   simp only[prepRV] at h
   cases hl:prepRV P l with
   |none=>rw[hl] at h;cases h
   |some x=>rw[hl] at h;obtain rfl:=Option.some.inj h;exact ⟨rfl,prepRV_R hl⟩
 | .cell a t::l,rs,h=>by
   simp only[prepRV] at h
   split at h
   ·rename_i x n h1 h2;obtain rfl:=Option.some.inj h;exact ⟨rfl,h2,prepRV_R h1⟩
   ·rename_i x n h1 h2;obtain rfl:=Option.some.inj h;exact ⟨rfl,⟨n,h2⟩,prepRV_R h1⟩
   ·cases h
def rdRes(tmps:Array Value)(r:ResultVar):Sem Value:=
 match r with
 | .tmp t=>pure (tmps.getD t undef)
 | .cell a t=>do loadVar t (←asAddr (tmps.getD a undef))
theorem results_eq(fn:Func)(tmps:Array Value):results fn tmps=(do let vs ←fn.results.mapM (rdRes tmps);pure (if h:vs.size=1 then vs[0] else .tuple vs)):=by
 unfold results
 congr 1
theorem resAll_true{H:Hp}{T:Tr AV}: ∀ {rs:List RV} {l:List ResultVar} {k:List AV→Bool},RVR P rs l→resAll H T rs k=true→ ∃vs,k vs=true∧vs.length=l.length∧
 ∀(pr:Nat→Prop) (w0:World) (σ:Sg) (tmps:Array Value) (w:World),(∀t,(liveR l).testBit t=true→conc σ (getT undf (toP t) T)=some (tmps.getD t undef))→Sim pr w0 σ H w→
  ∃xs,concL σ vs=some xs∧(l.mapM (rdRes tmps)).run P w= .ok xs w
 |[],[],k,_,h=>⟨[],h,rfl,fun pr w0 σ tmps w _ _=>⟨[],rfl,by simp⟩⟩
 |[],_::_,_,hr,_=>hr.elim
 | .s p::rs,[],_,hr,_=>hr.elim
 | .c1 p::rs,[],_,hr,_=>hr.elim
 | .cn p n::rs,[],_,hr,_=>hr.elim
 | .s p::rs, .cell a t::l,_,hr,_=>hr.elim
 | .c1 p::rs, .tmp t::l,_,hr,_=>hr.elim
 | .cn p n::rs, .tmp t::l,_,hr,_=>hr.elim
 | .s p::rs, .tmp t::l,k,hr,h=>by
   obtain ⟨rfl,hr⟩:=hr
   have h':resAll H T rs (fun vs=>k (getT undf (toP t) T::vs))=true:=h
   obtain ⟨vs,h1,h2,h3⟩:=resAll_true hr h'
   refine ⟨_,h1,by simp[h2],fun pr w0 σ tmps w hl hs=>?_⟩
   obtain ⟨xs,x1,x2⟩:=h3 pr w0 σ tmps w (fun u hu=>hl u (by simp only[liveR];show (_ ||| _:Nat).testBit u=true;rw[Nat.testBit_or,hu];simp)) hs
   have ht:=hl t (by simp only[liveR];show (Nat.shiftLeft 1 t ||| _).testBit t=true;rw[Nat.testBit_or];show ((1 <<< t).testBit t||_)=true;rw[Nat.one_shiftLeft,Nat.testBit_two_pow];simp)
   refine ⟨tmps.getD t undef::xs,concL_cons.2 ⟨_,_,rfl,ht,x1⟩,?_⟩
   have hh:(rdRes tmps (.tmp t)).run P w= .ok (tmps.getD t undef) w:=rfl
   rw[List.mapM_cons]
   simp only[Sem.run_bind,hh,Sem.run_pure,Result.andThen_ok,x2]
 | .c1 p::rs, .cell a t::l,k,hr,h=>by
   obtain ⟨rfl,⟨n,hag⟩,hr⟩:=hr
   obtain ⟨b,off,e1,h1⟩:=asPtr_true (show asPtr (getT undf (toP a) T) (load1b H fun v _=>resAll H T rs fun vs=>k (v::vs))=true from h)
   obtain ⟨el,sp,c,e2,h2⟩:=hcells_true h1
   obtain ⟨e3,h3⟩:=chk_iff.1 h2
   obtain ⟨vs,q1,q2,q3⟩:=resAll_true hr h3
   refine ⟨_,q1,by simp[q2],fun pr w0 σ tmps w hl hs=>?_⟩
   obtain ⟨xs,x1,x2⟩:=q3 pr w0 σ tmps w (fun u hu=>hl u (by simp only[liveR];show (_ ||| _:Nat).testBit u=true;rw[Nat.testBit_or,hu];simp)) hs
   have ht:=hl a (by simp only[liveR];show (Nat.shiftLeft 1 a ||| _).testBit a=true;rw[Nat.testBit_or];show ((1 <<< a).testBit a||_)=true;rw[Nat.one_shiftLeft,Nat.testBit_two_pow];simp)
   rw[e1] at ht
   simp only[conc] at ht
   cases hb:σ b with
   |none=>simp[hb] at ht
   |some e=>
    simp only[hb,Option.map_some,Option.some.injEq] at ht
    obtain ⟨arr,fz,hc⟩:=hs.cells hb e2
    obtain ⟨v,y1,y2⟩:=hc.read (blt_iff.1 e3)
    refine ⟨v::xs,concL_cons.2 ⟨_,_,rfl,y2,x1⟩,?_⟩
    have hh:(rdRes tmps (.cell a t)).run P w= .ok v w:=by
     simp only[rdRes, ←ht,asAddr,Sem.run_bind,Sem.run_pure,Result.andThen_ok,loadVar,(aggO_some hag w).1]
     simp[y1]
    rw[List.mapM_cons]
    simp only[Sem.run_bind,hh,Sem.run_pure,Result.andThen_ok,x2]
 | .cn p n::rs, .cell a t::l,k,hr,h=>by
   obtain ⟨rfl,hag,hr⟩:=hr
   obtain ⟨b,off,e1,h1⟩:=asPtr_true (show asPtr (getT undf (toP a) T) (loadNb n H fun v _=>resAll H T rs fun vs=>k (v::vs))=true from h)
   obtain ⟨el,sp,c,e2,h2⟩:=hcells_true h1
   obtain ⟨e3,h3⟩:=clist_true h2
   obtain ⟨vs,q1,q2,q3⟩:=resAll_true hr h3
   refine ⟨_,q1,by simp[q2],fun pr w0 σ tmps w hl hs=>?_⟩
   obtain ⟨xs,x1,x2⟩:=q3 pr w0 σ tmps w (fun u hu=>hl u (by simp only[liveR];show (_ ||| _:Nat).testBit u=true;rw[Nat.testBit_or,hu];simp)) hs
   have ht:=hl a (by simp only[liveR];show (Nat.shiftLeft 1 a ||| _).testBit a=true;rw[Nat.testBit_or];show ((1 <<< a).testBit a||_)=true;rw[Nat.one_shiftLeft,Nat.testBit_two_pow];simp)
   rw[e1] at ht
   simp only[conc] at ht
   cases hb:σ b with
   |none=>simp[hb] at ht
   |some e=>
    simp only[hb,Option.map_some,Option.some.injEq] at ht
    obtain ⟨arr,fz,hc⟩:=hs.cells hb e2
    obtain ⟨ys,y1,y2,y3⟩:=hc.reads e3
    have run:=run_loadCells_list (P:=P) w ⟨e.blk,e.base+off,none⟩ ys y3
    rw[y2] at run
    refine ⟨.agg ys.toArray::xs,concL_cons.2 ⟨_,_,rfl,by simp[conc,y1],x1⟩,?_⟩
    have hh:(rdRes tmps (.cell a t)).run P w= .ok (.agg ys.toArray) w:=by
     simp only[rdRes, ←ht,asAddr,Sem.run_bind,Sem.run_pure,Result.andThen_ok,loadVar,(aggO_some hag w).1,(aggO_some hag w).2,if_true,run]
    rw[List.mapM_cons]
    simp only[Sem.run_bind,hh,Sem.run_pure,Result.andThen_ok,x2]
theorem resK_true{H:Hp}{k:KV}{vs:List AV}(h:resK k H vs=true): ∃v,k v H=true∧ ∀(σ:Sg) (xs:List Value),concL σ vs=some xs→conc σ v=some (if h:xs.toArray.size=1 then xs.toArray[0] else .tuple xs.toArray):=by
 unfold resK at h
 split at h
 ·rename_i v
  refine ⟨v,h,fun σ xs hx=>?_⟩
  obtain ⟨x,r,rfl,h1,h2⟩:=concL_cons.1 hx
  simp[concL] at h2;subst h2
  simpa using h1
 ·rename_i hne
  refine ⟨_,h,fun σ xs hx=>?_⟩
  have hl:=concL_length hx
  have h1: ¬xs.toArray.size=1:=fun e=>by
   simp at e
   rw[hl] at e
   match vs,e with
   |[v],_=>exact hne v rfl
  rw[dif_neg h1]
  simp[conc,hx]
theorem bindA_get: ∀(l:List AV) (i:Nat) (T:Tr AV) (t:Nat),getT undf (toP t) (bindA i l T)=if i≤t∧t<i+l.length then l.getD (t-i) undf else getT undf (toP t) T
 |[],i,T,t=>by simp only[bindA];rw[if_neg (by simp)]
 |v::l,i,T,t=>by
  simp only[bindA]
  rw[bindA_get l (i+1)]
  by_cases h:t=i
  ·subst h
   rw[if_neg (by omega),if_pos (by simp),getT_setT_self];simp
  ·rw[getT_setT_ne _ _ _ _ _ (toP_ne h)]
   by_cases h1:i+1≤t∧t<i+1+l.length
   ·rw[if_pos h1,if_pos (by simp;omega)]
    obtain ⟨m,rfl⟩: ∃m,t=i+1+m:=⟨t-(i+1),by omega⟩
    rw[show i+1+m-(i+1)=m by omega,show i+1+m-i=m+1 by omega];simp
   ·rw[if_neg h1,if_neg (by simp;omega)]
theorem prepF_sound(hX:XSound P X)(hF:FSound P F)(hm:P.follows .mixedOrders=true){f:Nat}{args:List AV}{H:Hp}{k:KV}(hk:(prepF P X f).run F args H k=true): ∃v H',k v H'=true∧FunSpec P f args H v H':=by
 unfold prepF at hk
 split at hk
 ·rename_i fn hfn
  split at hk
  ·rename_i c rs hbody hrs
   rw[bc_eq] at hk
   split at hk
   ·rename_i hsl
    obtain ⟨hle,hk1⟩:=chk_iff.1 hk
    have hle':args.length≤fn.ntmps:=by have:=ble_iff.1 hle;rwa [llen_eq] at this
    have main: ∀(T':Tr AV) (H':Hp) (e:Exit),(e= .normal∨e= .ret)→kRet rs k T' H'=true→CodeSpec P c fn.ntmps (liveF fn c) (bindA 0 args .nil) H e T' H'→ ∃v H',k v H'=true∧FunSpec P f args H v H':=fun T' H' e he hret hsp=>by
     obtain ⟨vs,h1,h2,h3⟩:=resAll_true (prepRV_R hrs) hret
     obtain ⟨v,h4,h5⟩:=resK_true h1
     refine ⟨v,H',h4,hsp.1,fun pr w0 σ w xs hxs hs=>callsIn_wide (n:=0) |>.1 ?_⟩
     have hxl:=concL_length hxs
     refine callsIn_of_wp_marks (F:=fw none) (tfunc_some hfn) hbody trivial ?_
     refine hsp.2 none (by simp) pr w0 σ _ w [] ⟨?_,fun t ht=>?_,hs,⟨by simp,by simp,by simp,by simp⟩,rfl⟩ 0 _ fun τ a' w' ms' g s=>?_
     ·simp;omega
     ·rw[bindA_get]
      simp only[Nat.zero_le,true_and,Nat.zero_add,Nat.sub_zero,Array.getD_eq_getD_getElem?,Array.getElem?_append]
      by_cases htl:t<args.length
      ·rw[if_pos htl,if_pos (by simp;omega)]
       obtain ⟨y,y1,y2⟩:=concL_get t hxs args[t] (by simp[htl])
       simp only[List.getElem?_toArray,y1,Option.getD_some]
       rw[List.getD_eq_getElem?_getD,List.getElem?_eq_getElem htl]
       exact y2
      ·rw[if_neg htl,if_neg (by simp;omega),getT_nil,Array.getElem?_replicate]
       split <;> rfl
     ·have hpost:LeavesInM (fw none) 0 P fn a'.tmps (CallPost pr w0 σ H v H') a'.defers .returning w':=by
       rw[s.defers]
       refine leaves_marks (fun u hu=>?_) ms' w' s.sim s.mark
       obtain ⟨ys,y1,y2⟩:=h3 pr w0 τ a'.tmps u (fun t ht=>s.frame t (by show (liveC c ||| liveR fn.results.toList).testBit t=true;rw[Nat.testBit_or,ht];simp)) hu
       refine ⟨_,?_,τ,g,h5 τ ys y1,hu⟩
       rw[results_eq, ←Array.toArray_toList (xs:=fn.results),List.mapM_toArray]
       simp only[Sem.run_bind,Sem.run_map,y2,Result.andThen_ok,Sem.run_pure]
      rcases he with rfl|rfl <;> exact hpost
    rcases prepC_sound hX hF hm c hsl _ H _ _ hk1 with ⟨T',H',h1,h2⟩|⟨e,T',H',h1,h2⟩
    ·exact main T' H' .normal (.inl rfl) h1 h2
    ·cases e with
     |none=>exact main T' H' .ret (.inr rfl) h1 h2
     |some id=>cases h1
   ·exact absurd hk Bool.false_ne_true
  ·exact absurd hk Bool.false_ne_true
 ·exact absurd hk Bool.false_ne_true
end
end Go.Ev
namespace Go.Ev
section
variable {P:Program} {X:Nat→Option Call} {F:Fs}
theorem bindP_frame{σ:Sg}{live:Nat}: ∀ {ps:List Nat} {vs:List AV} {xs:List Value} {T T':Tr AV} {tmps:Array Value},bindP ps vs T=some T'→concL σ vs=some xs→FrameR σ live T tmps→(∀p∈ps,p<tmps.size)→
 FrameR σ live T' ((ps.zip xs).foldl (fun tmps p=>tmps.setIfInBounds p.1 p.2) tmps)∧((ps.zip xs).foldl (fun tmps p=>tmps.setIfInBounds p.1 p.2) tmps).size=tmps.size∧ps.length=xs.length
 |[],[],xs,T,T',tmps,h,hx,hf,_=>by
  simp[bindP] at h;subst h
  simp[concL] at hx;subst hx
  exact ⟨hf,rfl,rfl⟩
 |[],_::_,_,_,_,_,h,_,_,_=>by simp[bindP] at h
 |_::_,[],_,_,_,_,h,_,_,_=>by simp[bindP] at h
 |p::ps,v::vs,xs,T,T',tmps,h,hx,hf,hp=>by
  obtain ⟨x,r,rfl,h1,h2⟩:=concL_cons.1 hx
  simp only[bindP] at h
  have hp0:p<tmps.size:=hp p List.mem_cons_self
  have hf':FrameR σ live (setT undf v (toP p) T) (tmps.setIfInBounds p x):=fun t ht=>by
   by_cases htp:t=p
   ·subst htp
    rw[getT_setT_self,h1]
    simp[Array.getD_eq_getD_getElem?,hp0]
   ·rw[getT_setT_ne _ _ _ _ _ (toP_ne htp),hf t ht]
    simp[Array.getD_eq_getD_getElem?,Ne.symm htp]
  obtain ⟨k1,k2,k3⟩:=bindP_frame h h2 hf' (fun q hq=>by rw[Array.size_setIfInBounds];exact hp q (List.mem_cons_of_mem _ hq))
  refine ⟨k1,?_,by simp[k3]⟩
  rw[List.zip_cons_cons,List.foldl_cons,k2,Array.size_setIfInBounds]
theorem Sim.loop{pr:Nat→Prop}{w0 w:World}{σ:Sg}{H:Hp}(h:Sim pr w0 σ H w){b:Nat}{e:En}(he:σ b=some e){l:ALoop}(hb:hget H b= .loop l): ∃r,w.heap[e.blk]? =some (.loop r)∧LoopR σ l r:=by
 have:=h.dom b e he
 rw[hb] at this
 exact this
theorem Sim.setLoop{pr:Nat→Prop}{w0 w:World}{σ:Sg}{H:Hp}(h:Sim pr w0 σ H w){b:Nat}{e:En}(he:σ b=some e){l l':ALoop}(hb:hget H b= .loop l){r r':Loop}(hr:w.heap[e.blk]? =some (.loop r))(hl:LoopR σ l' r'):
 Sim pr w0 σ (hset H b (.loop l')) {w with heap:=w.heap.setIfInBounds e.blk (.loop r')}∧Grows σ H σ (hset H b (.loop l')):=by
 have hbut:=but_setObj w e.blk (.loop r')
 refine h.set he (by rw[hb];simp) (by simp) hbut ⟨r',?_,hl⟩ (fun id x hx hne hbr=>hbr.but' hbut (fun l cl=>by rw[hr];simp) hne)
 rw[Array.getElem?_setIfInBounds,if_pos rfl,if_pos (getElem?_lt hr)]
theorem yieldR_sound(hX:XSound P X)(hF:FSound P F)(hm:P.follows .mixedOrders=true){b:Nat}{args:List AV}{H:Hp}{k:KV}(hk:yieldR P X F b args H k=true): ∃v H',k v H'=true∧YieldSpec P b args H v H':=by
 obtain ⟨l,hl,hk1⟩:=hloop_true hk
 unfold rndR at hk1
 split at hk1
 ·rename_i hst0
  obtain ⟨hin',hk1⟩:=chk_iff.1 hk1
  have hin:slotsIn l.fn l.assign=true∧slotsIn l.fn l.body=true:=by simpa using hin'
  unfold rndA at hk1
  split at hk1
  ·rename_i T0 hT0
   ·rcases prepC_sound (N:=l.fn) hX hF hm l.assign hin.1 T0 H noX _ hk1 with ⟨T1,H1,h1,hs1⟩|⟨e,T1,H1,h1,_⟩
    ·obtain ⟨l1,hl1,hk2⟩:=hloop_true h1
     unfold rndB1 at hk2
     split at hk2
     ·rename_i hst1
      have main: ∀(T2:Tr AV) (H2:Hp) (j:Option (Option Nat)) (l2:ALoop),CodeSpec P l.body l.fn l.live T1 (hset H1 b (.loop {l1 with st:=some none})) (match j with|none=> .normal|some e=>exOf e) T2 H2→hget H2 b= .loop l2→l2.st=some none→
       YieldSpec P b args H (.bool j.isNone) (hset H2 b (.loop {l2 with st:=j.map some})):=fun T2 H2 j l2 hs2 hl2 hst2=>by
       refine ⟨hs1.1.trans ((stays_set (by simp)).trans (hs2.1.trans (stays_set (by simp)))),fun pr w0 σ w xs e hxs he hs=>?_⟩
       obtain ⟨r,hr,hlr⟩:=hs.loop he hl
       obtain ⟨f1,f2,f3⟩:=bindP_frame hT0 hxs hlr.frame (fun p hp=>by rw[hlr.size];exact hlr.inP p hp)
       have hzip:(r.params.zip xs.toArray).foldl (fun tmps (t,a)=>tmps.setIfInBounds t a) r.tmps=(l.ps.zip xs).foldl (fun tmps p=>tmps.setIfInBounds p.1 p.2) r.tmps:=by
        rw[←Array.foldl_toList,Array.toList_zip,hlr.params]
       refine ⟨r.fn,(l.ps.zip xs).foldl (fun tmps p=>tmps.setIfInBounds p.1 p.2) r.tmps,r.assign,r.body,?_,fun n=>?_⟩
       ·have hg:=run_getObj (P:=P) (w:=w) (b:=e.blk) hr (by simp)
        have hsz:xs.toArray.size=r.params.size:=by
         rw[←Array.length_toList (xs:=r.params),hlr.params,f3];simp
        simp only[Instr.yield,Instr.getLoop,Sem.run_bind,hg,Result.andThen_ok,Sem.run_pure,hsz,ne_eq,not_true_eq_false,if_false,hzip]
       ·rw[hlr.assign,hlr.body]
        refine roundIn_of_wpIn trivial ?_
        refine hs1.2 (some e.blk) (fun _=>hlr.noA) pr w0 σ {tmps:=_,defers:=[]} w [] ⟨f2.trans hlr.size,f1,hs,⟨by simp,by simp,by simp,by simp⟩,rfl⟩ n _ fun τ a1 w1 ms1 g1 s1=>?_
        obtain ⟨r1,hr1,hlr1⟩:=s1.sim.loop (g1.le b e he) hl1
        have hbg:(Instr.beginRound e.blk).run P w1= .ok () {w1 with heap:=w1.heap.setIfInBounds e.blk (.loop {r1 with state:= .busy})}:=by
         have q1:=run_getObj (P:=P) (w:=w1) (b:=e.blk) hr1 (by simp)
         have q2:=run_setObj (P:=P) (w:=w1) (b:=e.blk) (.loop {r1 with state:= .busy}) hr1 (by simp)
         have q3:=hlr1.state
         rw[hst1] at q3
         simp only[Instr.beginRound,Instr.getLoop,Sem.run_bind,q1,q2,Result.andThen_ok,Sem.run_pure,q3.1]
        refine ⟨_,hbg,?_⟩
        obtain ⟨k1,k2⟩:=s1.sim.setLoop (g1.le b e he) hl1 (l':= {l1 with st:=some none}) (r':= {r1 with state:= .busy}) hr1 ⟨hlr1.params,hlr1.assign,hlr1.body,hlr1.frame,hlr1.size,hlr1.inA,hlr1.inB,hlr1.inP,hlr1.noA,hlr1.noB,rfl⟩
        have hbut:=but_setObj w1 e.blk (.loop {r1 with state:= .busy})
        refine hs2.2 (some e.blk) (fun _=>hlr.noB) pr w0 τ a1 _ ms1 ⟨s1.size,s1.frame,k1,⟨fun m hm'=>?_,s1.mark.npr,s1.mark.out,s1.mark.nodup⟩,s1.defers⟩ n _ fun υ a2 w2 ms2 g2 s2=>?_
        ·rw[hbut.same m (fun eq=>s1.mark.out m hm' b e (g1.le b e he) eq.symm)]
         exact s1.mark.at_ m hm'
        ·have heb:υ b=some e:=g2.le b e (g1.le b e he)
         obtain ⟨r2,hr2,hlr2⟩:=s2.sim.loop heb hl2
         have hen: ∀(jc:Option Code),(Instr.endRound e.blk jc).run P w2= .ok (.bool jc.isNone) {w2 with heap:=w2.heap.setIfInBounds e.blk (.loop {r2 with state:=if jc.isNone then .ready else .done,pending:=jc})}:=fun jc=>by
          have q1:=run_getObj (P:=P) (w:=w2) (b:=e.blk) hr2 (by simp)
          have q2:=run_setObj (P:=P) (w:=w2) (b:=e.blk) (.loop {r2 with state:=if jc.isNone then .ready else .done,pending:=jc}) hr2 (by simp)
          simp only[Instr.endRound,Instr.getLoop,Sem.run_bind,q1,q2,Result.andThen_ok,Sem.run_pure]
         have fin: ∀(jc:Option Code),(jc=match j with|none=>none|some e=>some (jumpOf e))→CallPost pr w0 σ H (.bool j.isNone) (hset H2 b (.loop {l2 with st:=j.map some})) (.returned (.bool jc.isNone)) {w2 with heap:=w2.heap.setIfInBounds e.blk (.loop {r2 with state:=if jc.isNone then .ready else .done,pending:=jc})}:=fun jc hjc=>by
          have hlr':LoopR υ {l2 with st:=j.map some} {r2 with state:=if jc.isNone then .ready else .done,pending:=jc}:=
           ⟨hlr2.params,hlr2.assign,hlr2.body,hlr2.frame,hlr2.size,hlr2.inA,hlr2.inB,hlr2.inP,hlr2.noA,hlr2.noB,by subst hjc;cases j <;> exact ⟨rfl,rfl⟩⟩
          obtain ⟨m1,m2⟩:=s2.sim.setLoop heb hl2 (l':= {l2 with st:=j.map some}) hr2 hlr'
          exact ⟨υ,((g1.trans k2).trans g2).trans m2,by subst hjc;cases j <;> rfl,m1⟩
         cases j with
         |none=>exact ⟨_,_,hen none,fin none rfl⟩
         |some e'=>cases e' with
          |none=>exact ⟨_,_,hen (some .ret),fin (some .ret) rfl⟩
          |some id=>exact ⟨_,_,hen (some (.exit id)),fin (some (.exit id)) rfl⟩
      rcases prepC_sound (N:=l.fn) hX hF hm l.body hin.2 T1 _ (rndX b k) _ hk2 with ⟨T2,H2,h3,hs2⟩|⟨e,T2,H2,h3,hs2⟩
      ·obtain ⟨l2,hl2,hk3⟩:=hloop_true h3
       unfold rndE at hk3
       split at hk3
       ·rename_i hst2
        exact ⟨_,_,hk3,main T2 H2 none l2 hs2 hl2 hst2⟩
       ·cases hk3
      ·obtain ⟨l2,hl2,hk3⟩:=hloop_true h3
       unfold rndE at hk3
       split at hk3
       ·rename_i hst2
        exact ⟨_,_,hk3,main T2 H2 (some e) l2 hs2 hl2 hst2⟩
       ·cases hk3
     ·cases hk2
    ·cases h1
  ·cases hk1
 ·cases hk1
theorem callN_sound{S:Nat→Option Call}(hX:XSound P X)(hS:SSound P S)(hm:P.follows .mixedOrders=true): ∀n,FSound P (callN P X S n):=by
 intro n
 induction n with
 |zero=>exact ⟨fun f args H k h=>absurd h Bool.false_ne_true,fun f args H k h=>absurd h Bool.false_ne_true⟩
 |succ n ih=>
  refine ⟨fun f args H k h=>?_,fun b args H k h=>?_⟩
  ·have h':funR P X S (callN P X S n) args H k f=true:=h
   unfold funR at h'
   split at h'
   ·rename_i s hs;exact hS f s hs args H k h'
   ·exact prepF_sound hX ih hm h'
  ·exact yieldR_sound hX ih hm (show yieldR P X (callN P X S n) b args H k=true from h)
end
end Go.Ev
namespace Go.Ev
noncomputable section
variable (P:Program) (X:Nat→Option Call)
def memN(i:Nat):List Nat→Bool
 |[]=>false
 |j::l=>bc (Nat.beq j i) true (memN i l)
def nxNone(seen:List Nat):Nat→List (AV × AV)→Bool
 |_,[]=>true
 |i,_::es=>chk (memN i seen) (nxNone seen (Nat.add i 1) es)
def nxBr(B:OB)(F:Fs)(R:Fr)(H:Hp)(k:KN)(b m n:Nat)(seen:List Nat):Nat→List (AV × AV)→Bool
 |_,[]=>true
 |i,e::es=>chk (bc (memN i seen) true (B.run F (pushE R (.tup [.bool true,e.1,e.2])) (hset H b (.mitv m n (i::seen))) k)) (nxBr B F R H k b m n seen (Nat.add i 1) es)
def nxVd(B:OB)(F:Fs)(R:Fr)(H:Hp)(k:KN)(b m n:Nat)(seen:List Nat)(es:List (AV × AV)):Bool:=
 chk (Nat.beq (llen es) n) (chk (bc (nxNone seen 0 es) (B.run F (pushE R (.tup [.bool false])) H k) true) (nxBr B F R H k b m n seen 0 es))
def nxVc(B:OB)(F:Fs)(R:Fr)(H:Hp)(k:KN)(b m n:Nat)(seen:List Nat):Bool:=hmap H m (nxVd B F R H k b m n seen)
def nxVb(B:OB)(F:Fs)(R:Fr)(H:Hp)(k:KN)(b off:Nat):Bool:=chk (Nat.beq off 0) (hmv H b (nxVc B F R H k b))
def rNxV(d:Od)(B:OB)(F:Fs)(R:Fr)(H:Hp)(k:KN):Bool:=asPtr (evd R d) (nxVb B F R H k)
def isNextM(o:Oper):Option Operand:=match o.op,o.guard with| .next it false,none=>some it|_,_=>none
def regionM(live:Nat)(ops:Array Oper)(draw:Bool):OB:=
 match draw,ops.toList with
 |false,o::r=>match isNextM o with
  |some it=>match rgRs live ⟨[],0⟩ it with|some d=>⟨rNxV d (prepOps P X live ops r (rgOp ⟨[],0⟩ o))⟩|none=>ofail
  |none=>regionOB P X live ops draw
 |_,_=>regionOB P X live ops draw
variable (fid live:Nat) in
def prepM:Code→CB
 | .skip| .label _=>⟨rSkip⟩
 | .seq a b=>⟨rSeq (prepM a) (prepM b)⟩
 | .cond c a b=>match liveOd live c with|some d=>⟨rCond d (prepM a) (prepM b)⟩|none=>cfail
 | .block id b=>⟨rBlk id (prepM b)⟩
 | .loop b=>⟨rLoop (prepM b)⟩
 | .exit id=>⟨rExit (some id)⟩
 | .ret=>⟨rExit none⟩
 | .region _ ops draw=>⟨rRegion (regionM P X live ops draw)⟩
 |_=>cfail
end
section
variable {P:Program} {X:Nat→Option Call} {F:Fs} {N live:Nat}
theorem memN_iff{i:Nat}: ∀ {l:List Nat},memN i l=true↔i∈l
 |[]=>by simp[memN]
 |j::l=>by
  unfold memN
  rw[bc_eq]
  by_cases h:j=i
  ·rw[if_pos (beq_iff.2 h)];simp[h]
  ·rw[if_neg (fun e=>h (beq_iff.1 e)),memN_iff];simp[Ne.symm h]
theorem nxNone_of{seen:List Nat}: ∀(es:List (AV × AV)) (s:Nat),(∀i,s≤i→i<s+es.length→i∈seen)→nxNone seen s es=true
 |[],_,_=>rfl
 |_::es,s,h=>chk_iff.2 ⟨memN_iff.2 (h s (Nat.le_refl _) (by simp)),nxNone_of es (s+1) fun i h1 h2=>h i (by omega) (by simp;omega)⟩
theorem nxBr_at{B:OB}{R:Fr}{H:Hp}{k:KN}{b m n:Nat}{seen:List Nat}: ∀(es:List (AV × AV)) (s:Nat),nxBr B F R H k b m n seen s es=true→ ∀(j:Nat) (e:AV × AV),es[j]? =some e→s+j ∉ seen→
 B.run F (pushE R (.tup [.bool true,e.1,e.2])) (hset H b (.mitv m n ((s+j)::seen))) k=true
 |[],_,_,j,e,he,_=>by simp at he
 |e0::es,s,h,j,e,he,hn=>by
  obtain ⟨h1,h2⟩:=chk_iff.1 h
  cases j with
  |zero=>
   simp at he;subst he
   rw[Nat.add_zero] at hn ⊢
   rw[bc_eq,if_neg (fun x=>hn (memN_iff.1 x))] at h1
   exact h1
  |succ j=>
   have:=nxBr_at es (s+1) h2 j e (by simpa using he) (by rw[show s+1+j=s+(j+1) by omega];exact hn)
   rwa [show s+1+j=s+(j+1) by omega] at this
def CodeM(P:Program)(c:Code)(N live:Nat)(T:Tr AV)(H:Hp)(kx:KX)(k:KN):Prop:=
 ∀(r:Option Nat),(r.isSome=true→noRF c=true)→ ∀(pr:Nat→Prop) (w0:World) (σ:Sg) (a:Act) (w:World) (ms:List Nat),St pr w0 σ live N T H a w ms→
  ∀(n:Nat) (Q:Exit→Act→World→Prop),(∀T' H' τ a' w' ms',k T' H'=true→Grows σ H τ H'→St pr w0 τ live N T' H' a' w' ms'→Q .normal a' w')→
   (∀e T' H' τ a' w' ms',kx e T' H'=true→Grows σ H τ H'→St pr w0 τ live N T' H' a' w' ms'→Q (exOf e) a' w')→c.wpIn (fw r) n P Q a w
def CShowsM(P:Program)(c:Code)(N live:Nat)(B:CB)(F:Fs):Prop:= ∀(T:Tr AV) (H:Hp) (kx:KX) (k:KN),B.run F kx T H k=true→CodeM P c N live T H kx k
theorem CShows.m{c:Code}{B:CB}(h:CShows P c N live B F):CShowsM P c N live B F:=fun T H kx k hk r hr pr w0 σ a w ms hs n Q hQ hX=>by
 rcases h T H kx k hk with ⟨T',H',h1,h2⟩|⟨e,T',H',h1,h2⟩
 ·exact h2.2 r hr pr w0 σ a w ms hs n Q fun τ a' w' ms' g s=>hQ T' H' τ a' w' ms' h1 g s
 ·exact h2.2 r hr pr w0 σ a w ms hs n Q fun τ a' w' ms' g s=>hX e T' H' τ a' w' ms' h1 g s
theorem loopM_sound{c:Code}{A:CB}(hA:CShowsM P c N live A F){kx:KX}{k:KN}{n:Nat}{T:Tr AV}{H:Hp}(hk:loopN A F kx n T H=true):CodeM P (.loop c) N live T H kx k:=fun r hr pr w0 σ a w ms hs m Q hQ hX=>by
 have hr':r.isSome=true→noRF c=true:=fun e=>by have:=hr e;simpa[noRF] using this
 refine wpIn_loopJ (fun j a w=> ∃τ T1 H1 ms1,loopN A F kx j T1 H1=true∧Grows σ H τ H1∧St pr w0 τ live N T1 H1 a w ms1) (j:=n) ⟨σ,T,H,ms,hk,Grows.refl σ H,hs⟩ fun j a w ⟨τ,T1,H1,ms1,hc,hg,hst⟩=>?_
 cases j with
 |zero=>exact absurd hc Bool.false_ne_true
 |succ j=>
  have hc':A.run F kx T1 H1 (loopN A F kx j)=true:=hc
  refine hA T1 H1 kx _ hc' r hr' pr w0 τ a w ms1 hst m _ (fun T' H' υ a' w' ms' h1 g s=>⟨j,Nat.lt_succ_self j,υ,T',H',ms',h1,hg.trans g,s⟩) fun e T' H' υ a' w' ms' h1 g s=>?_
  have:=hX e T' H' υ a' w' ms' h1 (hg.trans g) s
  cases e <;> exact this
theorem next_post{rs:Rs}{o:Oper}{R:Fr}{it:Operand}{d:Od}(ho:o.op= .next it false)(hd:rs it=some d){b m n:Nat}{seen:List Nat}{es:List (AV × AV)}{H:Hp}(h1:evd R d= .ptr b 0)(hb:hget H b= .mitv m n seen)(hm:hget H m= .map es)(hn:es.length=n)
 (r:Option Nat) (pr:Nat→Prop) (w0:World) (σ:Sg) (a:Act) (w:World) (hr:OdR σ rs R o a) (hs:Sim pr w0 σ H w):
 OpRun P r o a w fun x w'=>(nxNone seen 0 es=true∧conc σ (.tup [.bool false])=some x∧Sim pr w0 σ H w')∨
  ∃i e,es[i]? =some e∧i ∉ seen∧conc σ (.tup [.bool true,e.1,e.2])=some x∧Sim pr w0 σ (hset H b (.mitv m n (i::seen))) w'∧Grows σ H σ (hset H b (.mitv m n (i::seen))):=by
 have hx:it∈o.op.operands:=by rw[ho];simp[Op.operands]
 have hnd: ∀c,o.op≠ .defer c:=by intro c hc;rw[ho] at hc;cases hc
 obtain ⟨e,e1,e2⟩:=one_ptr hr hx hd h1
 have hbr:=hs.dom b e e1
 rw[hb] at hbr
 obtain ⟨hz,em,q1,q2⟩:=hbr
 obtain ⟨l,cl,m1,m2⟩:=hs.map q1 hm
 have hlen:=m2.u.length
 have hcl:cl=n:=by rw[m2.clk, ←hlen,hn]
 subst hcl
 rw[hz,Nat.add_zero] at e2
 have hrun: ∀ {x:Value} {w':World},(Instr.next (.pointer (some ⟨e.blk,0,none⟩)) false o.type).run P w= .ok x w'→(execOp a.eval o).run P w= .ok (.value x) w':=fun {x w'} h=>by
  simp only[execOp,ho,e2]
  simp[h]
 have hbn: ∀x∈l.toList,x.born<cl:=m2.u.born
 rcases run_next_at (P:=P) w o.type e.blk em.blk cl cl seen.reverse.toArray l cl q2 m1 hbn (Nat.le_refl _) with ⟨k1,k2⟩|⟨y,y1,w1,y2,y3⟩
 ·refine opRun_value hnd (hrun k2) (.inl ⟨nxNone_of es 0 fun i _ hi=>?_,rfl,hs⟩)
  have hil:i<l.toList.length:=by rw[←hlen];omega
  have hy:=List.getElem?_eq_getElem hil
  have hyb:=m2.num i _ hy
  have hmem:l.toList[i]∈l.toList:=List.getElem_mem hil
  by_cases hin:i∈seen
  ·exact hin
  ·exfalso
   have:l.toList[i]∈(leftOf l seen.reverse.toArray).toList:=by
    unfold leftOf
    simp only[Array.toList_filter,List.mem_filter]
    exact ⟨hmem,by rw[hyb];simp[hin]⟩
   rw[Array.eq_empty_of_size_eq_zero k1] at this
   simp at this
 ·have hy':y∈l.toList∧y.born ∉ seen:=by
   unfold leftOf at y1
   simp only[Array.toList_filter,List.mem_filter] at y1
   exact ⟨y1.1,by simpa using y1.2⟩
  obtain ⟨i,hi⟩:=List.mem_iff_getElem?.1 hy'.1
  have hyb:=m2.num i y hi
  have hil:i<es.length:=by have:=(List.getElem?_eq_some_iff.1 hi).1;omega
  obtain ⟨y',z1,z2⟩:=m2.ents.get i es[i] (List.getElem?_eq_getElem hil)
  rw[hi] at z1;obtain rfl:=Option.some.inj z1
  rw[hyb] at hy'
  have hs1:Sim pr w0 σ H w1∧w1.heap=w.heap:=by
   rcases y2 with rfl|rfl
   ·exact ⟨hs,rfl⟩
   ·exact ⟨hs.drawn _,rfl⟩
  have q2':w1.heap[e.blk]? =some (.mapIter (some em.blk) cl seen.reverse.toArray cl):=by rw[hs1.2];exact q2
  have hbut:=but_setObj w1 e.blk (.mapIter (some em.blk) cl (seen.reverse.toArray.push y.born) cl)
  obtain ⟨k1,k2⟩:=hs1.1.set e1 (by rw[hb];simp) (o:= .mitv m cl (i::seen)) (by simp) hbut ⟨hz,em,q1,by rw[hyb];simp[getElem?_lt q2']⟩ (fun id x hx hne hbr=>hbr.but' hbut (fun l cl=>by rw[q2'];simp) hne)
  refine opRun_value hnd (hrun y3) (.inr ⟨i,es[i],List.getElem?_eq_getElem hil,hy'.2,?_,k1,k2⟩)
  simp only[conc]
  rw[concL3 rfl z2.1 z2.2];rfl
theorem regionM_sound(hX:XSound P X)(hF:FSound P F)(hm:P.follows .mixedOrders=true){id:Nat}{ops:Array Oper}{draw:Bool}(hsl:slotsIn N (.region id ops draw)=true):CShowsM P (.region id ops draw) N live ⟨rRegion (regionM P X live ops draw)⟩ F:=fun T H kx k hk=>by
 have hk1:(regionM P X live ops draw).run F ⟨T,[]⟩ H k=true:=hk
 unfold regionM at hk1
 split at hk1
 ·rename_i o l hops
  split at hk1
  ·rename_i it hit
   split at hk1
   ·rename_i d hd
    have hop:o.op= .next it false∧o.guard=none:=by
     unfold isNextM at hit
     split at hit
     ·rename_i g1 g2;obtain rfl:=Option.some.inj hit;exact ⟨g1,g2⟩
     ·cases hit
    obtain ⟨b,off,h1,hk2⟩:=asPtr_true (show asPtr (evd ⟨T,[]⟩ d) (nxVb (prepOps P X live ops l (rgOp ⟨[],0⟩ o)) F ⟨T,[]⟩ H k)=true from hk1)
    obtain ⟨h2,hk3⟩:=chk_iff.1 hk2
    have h2':off=0:=beq_iff.1 h2
    subst h2'
    obtain ⟨m,n,seen,hb,hk4⟩:=hmv_true hk3
    obtain ⟨es,hme,hk5⟩:=hmap_true hk4
    obtain ⟨hn,hk6⟩:=chk_iff.1 hk5
    have hn':es.length=n:=by rw[←llen_eq];exact beq_iff.1 hn
    obtain ⟨c1,c2⟩:=chk_iff.1 hk6
    have hg0:RgOk ⟨[],0⟩:=by intro t w hw;cases hw
    have hl1:ops.toList.drop 1=l:=by rw[hops];rfl
    have hi:ops[0]? =some o:=by
     have:ops.toList[0]? =some o:=by rw[hops];rfl
     simpa using this
    intro r hr pr w0 σ a w ms hs nn Q hQ _
    have hdst: ∀o∈ops,DstIn a.tmps.size o:=fun o ho d hd=>by
     rw[hs.size]
     simp only[slotsIn] at hsl
     have:=List.all_eq_true.1 hsl o (by simpa using ho)
     rw[hd] at this
     exact of_decide_eq_true this
    refine wpIn_region ?_
    have hlen:List.range ops.size=0::List.range' 1 l.length:=by
     rw[List.range_eq_range', ←Array.length_toList,hops,List.length_cons,List.range'_succ]
    rw[hlen,wpOpsIn_cons]
    unfold wpOpIn
    rw[hi]
    have hwant:Region.wanted o (yielded ops a.tmps)=true:=by unfold Region.wanted;rw[hop.2]
    simp only[hwant,if_true]
    have hrg:RgR σ live ⟨[],0⟩ ⟨T,[]⟩ a.tmps:=RgR.start hs.frame
    have hreb:=hs.mark.rebase hs.sim
    have rest: ∀(v:AV) (H1:Hp) (x:Value) (w':World),(prepOps P X live ops l (rgOp ⟨[],0⟩ o)).run F (pushE ⟨T,[]⟩ v) H1 k=true→conc σ v=some x→Grows σ H σ H1→Sim (fun b=>pr b∨b∈ms) w σ H1 w'→wpOpsIn (fw r) nn P ops Q (List.range' 1 l.length) (a.put o.dst x) w':=fun v H1 x w' hk hv hg hs1=>by
     obtain ⟨T',H',p1,p2,p3⟩:=prepOps_sound hX hF ops live l 1 (rgOp ⟨[],0⟩ o) (pushE ⟨T,[]⟩ v) H1 k hl1 (hg0.op o) hk
     refine p3 r _ w σ _ w' (fun o ho=>by rw[size_put];exact hdst o ho) (hrg.op (Sg.le_refl σ) hg0 (hdst o (Array.mem_of_getElem? hi)) hv) hs1 nn Q fun τ a' w'' g1 g2 g3 g4 g5=>?_
     exact hQ T' H' τ a' w'' ms p1 (hg.trans g3) ⟨(g1.trans size_put).trans hs.size,g4,hs.sim.back g5,hs.mark.back g5,(g2.trans defers_put).trans hs.defers⟩
    refine Oper.wpIn_mono (fun a' w' ⟨x,e1,post⟩=>?_) (next_post (P:=P) hop.1 hd h1 hb hme hn' r _ w σ a w (hrg.odR o) hreb nn Q)
    subst e1
    rcases post with ⟨q1,q2,q3⟩|⟨i,e,q1,q2,q3,q4,q5⟩
    ·rw[bc_eq,if_pos q1] at c1
     exact rest _ _ _ _ c1 q2 (Grows.refl σ H) q3
    ·have:=nxBr_at es 0 c2 i e q1 (by rw[Nat.zero_add];exact q2)
     rw[Nat.zero_add] at this
     exact rest _ _ _ _ this q3 q5 q4
   ·exact absurd hk1 Bool.false_ne_true
  ·exact (region_sound hX hF hm hsl).m T H kx k hk1
 ·exact (region_sound hX hF hm hsl).m T H kx k hk1
theorem prepM_sound(hX:XSound P X)(hF:FSound P F)(hm:P.follows .mixedOrders=true): ∀(c:Code),slotsIn N c=true→CShowsM P c N live (prepM P X live c) F:=by
 intro c
 induction c with
 |skip=>intro _;exact CShows.m fun T H kx k hk=> .inl ⟨T,H,hk, .skip (fun h=>wpIn_skip h) T H⟩
 |label l=>intro _;exact CShows.m fun T H kx k hk=> .inl ⟨T,H,hk, .skip (fun h=>wpIn_label h) T H⟩
 |seq x y ihx ihy=>
  intro hsl T H kx k hk r hr pr w0 σ a w ms hs n Q hQ hQx
  simp only[slotsIn,Bool.and_eq_true] at hsl
  have hk':(prepM P X live x).run F kx T H (kSeq (prepM P X live y) F kx k)=true:=hk
  refine wpIn_seq (ihx hsl.1 T H kx _ hk' r (fun e=>by have:=hr e;simp[noRF] at this;exact this.1) pr w0 σ a w ms hs n _ (fun T1 H1 τ a1 w1 ms1 h1 g1 s1=>?_) fun e T1 H1 τ a1 w1 ms1 h1 g1 s1=>?_)
  ·exact ihy hsl.2 T1 H1 kx k h1 r (fun e=>by have:=hr e;simp[noRF] at this;exact this.2) pr w0 τ a1 w1 ms1 s1 n Q (fun T2 H2 υ a2 w2 ms2 h2 g2 s2=>hQ T2 H2 υ a2 w2 ms2 h2 (g1.trans g2) s2) fun e T2 H2 υ a2 w2 ms2 h2 g2 s2=>hQx e T2 H2 υ a2 w2 ms2 h2 (g1.trans g2) s2
  ·have:=hQx e T1 H1 τ a1 w1 ms1 h1 g1 s1
   cases e <;> exact this
 |cond c x y ihx ihy=>
  intro hsl T H kx k hk r hr pr w0 σ a w ms hs n Q hQ hQx
  simp only[slotsIn,Bool.and_eq_true] at hsl
  unfold prepM at hk
  split at hk
  ·rename_i d hd
   obtain ⟨b,hb,hk1⟩:=asBool_true hk
   refine wpIn_cond (t:=b) (by have:=liveOd_conc hs.frame hd;rw[hb] at this;exact conc_bool this) ?_
   cases b with
   |true=>exact ihx hsl.1 T H kx k hk1 r (fun e=>by have:=hr e;simp[noRF] at this;exact this.1) pr w0 σ a w ms hs n Q hQ hQx
   |false=>exact ihy hsl.2 T H kx k hk1 r (fun e=>by have:=hr e;simp[noRF] at this;exact this.2) pr w0 σ a w ms hs n Q hQ hQx
  ·exact absurd hk Bool.false_ne_true
 |block id c ih=>
  intro hsl T H kx k hk r hr pr w0 σ a w ms hs n Q hQ hQx
  have hk':(prepM P X live c).run F (kxBlk id kx k) T H k=true:=hk
  refine wpIn_block (ih (by simpa[slotsIn] using hsl) T H (kxBlk id kx k) k hk' r (fun e=>by have:=hr e;simpa[noRF] using this) pr w0 σ a w ms hs n _ (fun T1 H1 τ a1 w1 ms1 h1 g1 s1=>hQ T1 H1 τ a1 w1 ms1 h1 g1 s1) fun e T1 H1 τ a1 w1 ms1 h1 g1 s1=>?_)
  cases e with
  |none=>exact hQx none T1 H1 τ a1 w1 ms1 h1 g1 s1
  |some j=>
   have h3':bc (Nat.beq j id) (k T1 H1) (kx (some j) T1 H1)=true:=h1
   rw[bc_eq] at h3'
   split at h3'
   ·rename_i hj
    obtain rfl:=beq_iff.1 hj
    simp only[exOf,Exit.inBlock,if_true]
    exact hQ T1 H1 τ a1 w1 ms1 h3' g1 s1
   ·rename_i hj
    have hne:j≠id:=fun e=>hj (beq_iff.2 e)
    simp only[exOf,Exit.inBlock,if_neg hne]
    exact hQx (some j) T1 H1 τ a1 w1 ms1 h3' g1 s1
 |loop c ih=>
  intro hsl T H kx k hk
  exact loopM_sound (ih (by simpa[slotsIn] using hsl)) (n:=1000000) hk
 |exit id=>intro _;exact CShows.m fun T H kx k hk=> .inr ⟨some id,T,H,hk,Stays.refl H,fun r _ pr w0 σ a w ms hs n Q hQ=>wpIn_exit (hQ σ a w ms (Grows.refl σ H) hs)⟩
 |ret=>intro _;exact CShows.m fun T H kx k hk=> .inr ⟨none,T,H,hk,Stays.refl H,fun r _ pr w0 σ a w ms hs n Q hQ=>wpIn_ret (hQ σ a w ms (Grows.refl σ H) hs)⟩
 |region id ops draw=>intro hsl;exact regionM_sound hX hF hm hsl
 |_=>intro _ T H kx k hk;exact absurd hk Bool.false_ne_true
end
end Go.Ev
namespace Go.Ev
noncomputable section
variable (P:Program) (X:Nat→Option Call)
def prepFM(f:Nat):FB:=
 match tfunc P f with
 |some fn=>match fn.body,prepRV P fn.results.toList with
  |some c,some rs=>bc (slotsIn fn.ntmps c) ⟨rFun fn.ntmps rs (prepM P X (liveF fn c) c)⟩ ffail
  |_,_=>ffail
 |none=>ffail
end
section
variable {P:Program} {X:Nat→Option Call} {F:Fs}
theorem prepFM_sound(hX:XSound P X)(hF:FSound P F)(hm:P.follows .mixedOrders=true){f:Nat}{args:List AV}{H:Hp}{k:KV}(hk:(prepFM P X f).run F args H k=true)(pr:Nat→Prop)(w0:World)(σ:Sg)(w:World)(xs:List Value)(hxs:concL σ args=some xs)(hs:Sim pr w0 σ H w):
 Calls P f xs.toArray w fun en u=> ∃v H',k v H'=true∧CallPost pr w0 σ H v H' en u:=by
 unfold prepFM at hk
 split at hk
 ·rename_i fn hfn
  split at hk
  ·rename_i c rs hbody hrs
   rw[bc_eq] at hk
   split at hk
   ·rename_i hsl
    obtain ⟨hle,hk1⟩:=chk_iff.1 hk
    have hle':args.length≤fn.ntmps:=by have:=ble_iff.1 hle;rwa [llen_eq] at this
    refine callsIn_wide (n:=0) |>.1 ?_
    have hxl:=concL_length hxs
    refine callsIn_of_wp_marks (F:=fw none) (tfunc_some hfn) hbody trivial ?_
    have main: ∀(T':Tr AV) (H':Hp) (τ:Sg) (a':Act) (w':World) (ms':List Nat),kRet rs k T' H'=true→Grows σ H τ H'→St pr w0 τ (liveF fn c) fn.ntmps T' H' a' w' ms'→
     LeavesInM (fw none) 0 P fn a'.tmps (fun en u=> ∃v H',k v H'=true∧CallPost pr w0 σ H v H' en u) a'.defers .returning w':=fun T' H' τ a' w' ms' hret g s=>by
     obtain ⟨vs,h1,h2,h3⟩:=resAll_true (prepRV_R hrs) hret
     obtain ⟨v,h4,h5⟩:=resK_true h1
     rw[s.defers]
     refine leaves_marks (fun u hu=>?_) ms' w' s.sim s.mark
     obtain ⟨ys,y1,y2⟩:=h3 pr w0 τ a'.tmps u (fun t ht=>s.frame t (by show (liveC c ||| liveR fn.results.toList).testBit t=true;rw[Nat.testBit_or,ht];simp)) hu
     refine ⟨_,?_,v,H',h4,τ,g,h5 τ ys y1,hu⟩
     rw[results_eq, ←Array.toArray_toList (xs:=fn.results),List.mapM_toArray]
     simp only[Sem.run_bind,Sem.run_map,y2,Result.andThen_ok,Sem.run_pure]
    refine prepM_sound hX hF hm c hsl _ H _ _ hk1 none (by simp) pr w0 σ _ w [] ⟨?_,fun t ht=>?_,hs,⟨by simp,by simp,by simp,by simp⟩,rfl⟩ 0 _ (fun T' H' τ a' w' ms' h1 g s=>main T' H' τ a' w' ms' h1 g s) fun e T' H' τ a' w' ms' h1 g s=>?_
    ·simp;omega
    ·rw[bindA_get]
     simp only[Nat.zero_le,true_and,Nat.zero_add,Nat.sub_zero,Array.getD_eq_getD_getElem?,Array.getElem?_append]
     by_cases htl:t<args.length
     ·rw[if_pos htl,if_pos (by simp;omega)]
      obtain ⟨y,y1,y2⟩:=concL_get t hxs args[t] (by simp[htl])
      simp only[List.getElem?_toArray,y1,Option.getD_some]
      rw[List.getD_eq_getElem?_getD,List.getElem?_eq_getElem htl]
      exact y2
     ·rw[if_neg htl,if_neg (by simp;omega),getT_nil,Array.getElem?_replicate]
      split <;> rfl
    ·cases e with
     |none=>exact main T' H' τ a' w' ms' h1 g s
     |some id=>cases h1
   ·exact absurd hk Bool.false_ne_true
  ·exact absurd hk Bool.false_ne_true
 ·exact absurd hk Bool.false_ne_true
theorem conc_back{σ τ:Sg}(hle:σ.le τ){v:AV}{x y:Value}(h:conc σ v=some x)(k:conc τ v=some y):conc σ v=some y:=by
 rw[conc_mono hle v x h] at k
 rw[h,Option.some.inj k]
theorem EntsR.back{σ τ:Sg}(hle:σ.le τ): ∀ {es:List (AV × AV)} {_l l':List MapEntry},(∀p∈es, ∃x y,conc σ p.1=some x∧conc σ p.2=some y)→EntsR τ es l'→EntsR σ es l'
 |[],_,[],_,_=>trivial
 |[],_,_::_,_,k=>k.elim
 |_::_,_,[],_,k=>k.elim
 |p::es,l,_::l',h,k=>by
  obtain ⟨x,y,h1,h2⟩:=h p List.mem_cons_self
  exact ⟨⟨conc_back hle h1 k.1.1,conc_back hle h2 k.1.2⟩,EntsR.back (_l:=l) hle (fun q hq=>h q (List.mem_cons_of_mem _ hq)) k.2⟩
theorem BR.back{σ τ:Sg}{w w':World}{e:En}{ob:AO}(hle:σ.le τ)(h:BR σ w e ob)(k:BR τ w' e ob):BR σ w' e ob:=by
 cases ob with
 |free=>exact k
 |dead=>exact k
 |cells el sp c=>
  obtain ⟨arr,fz,hc⟩:=h
  obtain ⟨arr',fz',kc⟩:=k
  refine ⟨arr',fz',{kc with cell:=fun i hi=>?_}⟩
  obtain ⟨x,_,h2⟩:=hc.cell i hi
  obtain ⟨y,k1,k2⟩:=kc.cell i hi
  exact ⟨y,k1,conc_back hle h2 k2⟩
 |map es=>
  obtain ⟨l,cl,_,h2⟩:=h
  obtain ⟨l',cl',k1,k2⟩:=k
  refine ⟨l',cl',k1,⟨EntsR.back (_l:=l.toList) hle (fun p hp=>?_) k2.ents,k2.keys,k2.num,k2.clk⟩⟩
  obtain ⟨y,_,y2⟩:=h2.ents.right p hp
  exact ⟨_,_,y2.1,y2.2⟩
 |umap es=>
  obtain ⟨l,cl,_,h2⟩:=h
  obtain ⟨l',cl',k1,k2⟩:=k
  obtain ⟨q,q1,q2⟩:=h2.perm
  obtain ⟨q',q3,q4⟩:=k2.perm
  refine ⟨l',cl',k1,⟨⟨q',q3,EntsR.back (_l:=q) hle (fun p hp=>?_) q4⟩,k2.keys,k2.born,k2.borns,k2.clk⟩⟩
  obtain ⟨y,_,y2⟩:=q2.right p hp
  exact ⟨_,_,y2.1,y2.2⟩
 |siter a b c=>exact k
 |miter m n0 d=>
  obtain ⟨_,em,_,_,_,_,_,h1,_⟩:=h
  obtain ⟨k0,em',l,cl,si,se,st,k1,k2⟩:=k
  rw[hle _ _ h1] at k1;obtain rfl:=Option.some.inj k1
  exact ⟨k0,em,l,cl,si,se,st,h1,k2⟩
 |mitv m n se=>
  obtain ⟨_,em,h1,_⟩:=h
  obtain ⟨k0,em',k1,k2⟩:=k
  rw[hle _ _ h1] at k1;obtain rfl:=Option.some.inj k1
  exact ⟨k0,em,h1,k2⟩
 |loop l=>
  obtain ⟨r,h1,h2⟩:=h
  obtain ⟨r',k1,k2⟩:=k
  refine ⟨r',k1,{k2 with frame:=fun t ht=>?_}⟩
  exact conc_back hle (h2.frame t ht) (k2.frame t ht)
theorem Sim.forget{pr:Nat→Prop}{w0 w w':World}{σ τ:Sg}{H H':Hp}(h:Sim pr w0 σ H w)(hle:σ.le τ)(k:Sim pr w0 τ H' w')(hH: ∀id,hget H id≠ .free→hget H' id=hget H id):Sim pr w0 σ H w' where
 size:=k.size
 os:=k.os
 tape:=k.tape
 output:=k.output
 glob:=k.glob
 prot:=k.prot
 dom:=fun id e he=>by
  have:=k.dom id e (hle id e he)
  rw[hH id (h.notFree he)] at this
  exact (h.dom id e he).back hle this
 lies:=fun id e he=>k.lies id e (hle id e he)
 inj:=h.inj
end
end Go.Ev
namespace Go.Ev
section
variable {pr:Nat→Prop} {w0 w w':World} {σ:Sg} {H H1:Hp}
structure HPart (H1 H:Hp):Prop where
 sub: ∀id,hget H1 id≠ .free→hget H id=hget H1 id
 cells: ∀id,hget H1 id≠ .free→ ∃el sp c,hget H1 id= .cells el sp c
 closed: ∀id el sp c,hget H1 id= .cells el sp c→ ∀i,i<c.n→inHp H1 (cget c.t i)=true
def Rest(σ:Sg)(H1:Hp)(b:Nat):Prop:=(∃id e,σ id=some e∧e.blk=b)∧ ∀id e,res σ H1 id=some e→e.blk≠b
theorem Sim.narrow(h:Sim pr w0 σ H w)(p:HPart H1 H):Sim (fun b=>pr b∨Rest σ H1 b) w (res σ H1) H1 w:=by
 have h1:Sim pr w0 (res σ H1) H1 w:=by
  refine ⟨h.size,h.os,h.tape,h.output,h.glob,h.prot,fun id e he=>?_,fun id e he=>h.lies id e (res_some.1 he).2,fun i j x y hx hy di dj hij=>?_⟩
  ·obtain ⟨p1,p2⟩:=res_some.1 he
   have:=h.dom id e p2
   rw[p.sub id p1] at this
   obtain ⟨el,sp,c,hc⟩:=p.cells id p1
   rw[hc] at this ⊢
   obtain ⟨arr,fz,k⟩:=this
   refine ⟨arr,fz,{k with cell:=fun i hi=>?_}⟩
   obtain ⟨x,x1,x2⟩:=k.cell i hi
   exact ⟨x,x1,conc_inHp _ _ (p.closed id el sp c hc i hi) x2⟩
  ·obtain ⟨p1,p2⟩:=res_some.1 hx
   obtain ⟨p3,p4⟩:=res_some.1 hy
   exact h.inj i j x y p2 p4 (by rw[p.sub i p1];exact di) (by rw[p.sub j p3];exact dj) hij
 refine h1.rebase fun b hb=>⟨?_,hb.2⟩
 obtain ⟨id,e,e1,rfl⟩:=hb.1
 exact (h.lies id e e1).1
theorem Sim.widen(h:Sim pr w0 σ H w)(p:HPart H1 H)(k:Sim (fun b=>pr b∨Rest σ H1 b) w (res σ H1) H1 w'):Sim pr w0 σ H w':=by
 refine ⟨Nat.le_trans h.size k.size,k.os.trans h.os,k.tape.trans h.tape,k.output.trans h.output,h.glob,fun b hb=>⟨(h.prot b hb).1,(k.prot b (.inl hb)).2.trans (h.prot b hb).2⟩,fun id e he=>?_,fun id e he=>⟨Nat.lt_of_lt_of_le (h.lies id e he).1 k.size,(h.lies id e he).2⟩,h.inj⟩
 by_cases hf:hget H1 id= .free
 ·have hd:=h.dom id e he
  by_cases hdead:hget H id= .dead
  ·rw[hdead];trivial
  ·have hq:Rest σ H1 e.blk:=⟨⟨id,e,he,rfl⟩,fun id' e' he'=>by
    obtain ⟨p1,p2⟩:=res_some.1 he'
    obtain ⟨el,sp,c,hc⟩:=p.cells id' p1
    exact h.inj id' id e' e p2 he (by rw[p.sub id' p1,hc];simp) hdead (fun eq=>by subst eq;exact p1 hf)⟩
   have same:=(k.prot e.blk (.inr hq)).2
   cases ho:hget H id with
   |free=>rw[ho] at hd;exact hd
   |dead=>trivial
   |cells el sp c=>rw[ho] at hd;obtain ⟨arr,fz,hc⟩:=hd;exact ⟨arr,fz,{hc with at_:=same.trans hc.at_}⟩
   |map es=>rw[ho] at hd;obtain ⟨l,cl,h1,h2⟩:=hd;exact ⟨l,cl,same.trans h1,h2⟩
   |umap es=>rw[ho] at hd;obtain ⟨l,cl,h1,h2⟩:=hd;exact ⟨l,cl,same.trans h1,h2⟩
   |siter a b c=>rw[ho] at hd;exact ⟨hd.1,same.trans hd.2⟩
   |miter m n0 d=>
    rw[ho] at hd
    obtain ⟨h0,em,l,cl,si,se,st,h1,h2,h3,r⟩:=hd
    refine ⟨h0,em,l,cl,si,se,st,h1,same.trans h2,(k.prot em.blk (.inr ⟨⟨m,em,h1,rfl⟩,fun id' e' he' eq=>?_⟩)).2.trans h3,r⟩
    obtain ⟨p1,p2⟩:=res_some.1 he'
    obtain ⟨el,sp,c,hc⟩:=p.cells id' p1
    have hb:=h.dom id' e' p2
    rw[p.sub id' p1,hc] at hb
    obtain ⟨arr,fz,hcr⟩:=hb
    have:=hcr.at_
    rw[eq,h3] at this
    cases this
   |mitv m n se=>rw[ho] at hd;obtain ⟨h0,em,h1,h2⟩:=hd;exact ⟨h0,em,h1,same.trans h2⟩
   |loop l=>rw[ho] at hd;obtain ⟨r,h1,h2⟩:=hd;exact ⟨r,same.trans h1,h2⟩
 ·have:=k.dom id e (res_some.2 ⟨hf,he⟩)
  rw[p.sub id hf]
  exact this.mono res_sub
theorem frame_calls{P:Program}{f:Nat}{args:List AV}{v:AV}(p:HPart H1 H)(hin:inHps H1 args=true)(hv: ∀(σ τ:Sg) (x:Value),conc σ v=some x→conc τ v=some x)
 (hc: ∀(pr:Nat→Prop) (w0:World) (σ:Sg) (w:World) (xs:List Value),concL σ args=some xs→Sim pr w0 σ H1 w→Calls P f xs.toArray w fun en u=> ∃v' H',(v'=v∧ ∀id,hget H1 id≠ .free→hget H' id=hget H1 id)∧CallPost pr w0 σ H1 v' H' en u):
 FunSpec P f args H v H:=by
 refine ⟨Stays.refl H,fun pr w0 σ w xs hxs hs=>?_⟩
 have hn:=hs.narrow p
 refine (hc _ w (res σ H1) w xs (concL_inHp args xs hin hxs) hn).mono fun en u ⟨v',H',⟨h1,h2⟩,h3⟩=>?_
 subst h1
 obtain ⟨x,rfl,τ,g1,g2,g3⟩:=callPost_ret h3
 exact ⟨σ,Grows.refl σ H,hv _ _ x g2,hs.widen p (hn.forget g1.le g3 h2)⟩
end
end Go.Ev
namespace Go.Ev
noncomputable section
def trBeq:Tr AV→Tr AV→Bool
 | .nil, .nil=>true
 | .nd v l r, .nd v' l' r'=>chk (avBeq v v') (chk (trBeq l l') (trBeq r r'))
 |_,_=>false
def cellsBeq:AO→AO→Bool
 | .cells el sp c, .cells el' sp' c'=>chk (Nat.beq el el') (chk (bc sp sp' (bnot sp')) (chk (Nat.beq c.n c'.n) (trBeq c.t c'.t)))
 |_,_=>false
def pick(H:Hp):List Nat→Hp
 |[]=>⟨H.next, .nil⟩
 |b::l=>hset (pick H l) b (hget H b)
def inCells(H1:Hp)(t:Tr AV):Nat→Bool
 |0=>true
 |i+1=>chk (inHp H1 (cget t i)) (inCells H1 t i)
def partOk1(H1:Hp)(H:Hp)(b:Nat):Bool:=match hget H b with| .cells _ _ c=>inCells H1 c.t c.n|_=>false
def sameOn(H1 H':Hp)(b:Nat):Bool:=cellsBeq (hget H' b) (hget H1 b)
end
theorem trBeq_eq: ∀ {a b:Tr AV},trBeq a b=true→a=b
 | .nil, .nil,_=>rfl
 | .nil, .nd _ _ _,h=>by cases h
 | .nd _ _ _, .nil,h=>by cases h
 | .nd v l r, .nd v' l' r',h=>by
   obtain ⟨h1,h2⟩:=chk_iff.1 h
   obtain ⟨h2,h3⟩:=chk_iff.1 h2
   rw[avBeq_eq _ _ h1,trBeq_eq h2,trBeq_eq h3]
theorem cellsBeq_eq{a b:AO}(h:cellsBeq a b=true):a=b:=by
 unfold cellsBeq at h
 split at h
 ·rename_i el sp c el' sp' c'
  obtain ⟨h1,h2⟩:=chk_iff.1 h
  obtain ⟨h2,h3⟩:=chk_iff.1 h2
  obtain ⟨h3,h4⟩:=chk_iff.1 h3
  obtain ⟨n,t⟩:=c
  obtain ⟨n',t'⟩:=c'
  have e3:n=n':=beq_iff.1 h3
  have e4:t=t':=trBeq_eq h4
  have e2:sp=sp':=by cases sp <;> cases sp' <;> simp_all[bc,bnot]
  rw[beq_iff.1 h1,e2,e3,e4]
 ·cases h
theorem pick_get{H:Hp}: ∀ {l:List Nat} {id:Nat},hget (pick H l) id≠ .free→id∈l∧hget (pick H l) id=hget H id
 |[],id,h=>absurd (by show getT AO.free (toP id) Tr.nil= .free;exact getT_nil _ _) h
 |b::l,id,h=>by
  by_cases hid:id=b
  ·subst hid
   exact ⟨List.mem_cons_self,hget_hset_self _ _ _⟩
  ·have e:hget (pick H (b::l)) id=hget (pick H l) id:=hget_hset_ne _ _ hid
   rw[e] at h ⊢
   obtain ⟨h1,h2⟩:=pick_get h
   exact ⟨List.mem_cons_of_mem _ h1,h2⟩
theorem inCells_at{H1:Hp}{t:Tr AV}: ∀ {n:Nat},inCells H1 t n=true→ ∀i,i<n→inHp H1 (cget t i)=true
 |0,_,i,h=>by omega
 |n+1,h,i,hi=>by
  obtain ⟨h1,h2⟩:=chk_iff.1 h
  by_cases e:i=n
  ·subst e;exact h1
  ·exact inCells_at h2 i (by omega)
theorem pick_part{H:Hp}{l:List Nat}(h:lall (partOk1 (pick H l) H) l=true):HPart (pick H l) H:=by
 have one: ∀ {id:Nat},hget (pick H l) id≠ .free→ ∃el sp c,hget (pick H l) id= .cells el sp c∧inCells (pick H l) c.t c.n=true:=fun {id} hn=>by
  obtain ⟨h1,h2⟩:=pick_get hn
  have:=(lall_iff _ _).1 h id h1
  unfold partOk1 at this
  split at this
  ·rename_i el sp c hc
   exact ⟨el,sp,c,h2.trans hc,this⟩
  ·cases this
 refine ⟨fun id hn=>(pick_get hn).2.symm,fun id hn=>let ⟨el,sp,c,h1,_⟩:=one hn;⟨el,sp,c,h1⟩,fun id el sp c hc i hi=>?_⟩
 obtain ⟨el',sp',c',h1,h2⟩:=one (id:=id) (by rw[hc];simp)
 rw[hc] at h1
 injection h1 with _ _ h1
 subst h1
 exact inCells_at h2 i hi
theorem sameOn_all{H H':Hp}{l:List Nat}(h:lall (sameOn (pick H l) H') l=true): ∀id,hget (pick H l) id≠ .free→hget H' id=hget (pick H l) id:=fun id hn=>
 cellsBeq_eq ((lall_iff _ _).1 h id (pick_get hn).1)
end Go.Ev
namespace Go.Ev
noncomputable section
variable (P:Program) (X:Nat→Option Call) (f:Nat) (F:Fs) (ids:List AV→Hp→List Nat)
def tryK(l:List Nat)(H1:Hp)(v:AV)(v':AV)(H':Hp):Bool:=chk (avBeq v' v) (lall (sameOn H1 H') l)
def tryOn(v:AV)(args:List AV)(H H1:Hp)(l:List Nat):Bool:=chk (inHps H1 args) (chk (lall (partOk1 H1 H) l) ((prepFM P X f).run F args H1 (tryK l H1 v)))
def tryV(v:AV)(args:List AV)(H:Hp)(l:List Nat):Bool:=tryOn P X f F v args H (pick H l) l
def sumM:List AV→Call
 |[],_,_,_=>false
 |v::vs,args,H,k=>bc (tryV P X f F v args H (ids args H)) (k v H) (sumM vs args H k)
end
end Go.Ev
namespace Go.Ev
open Go.RowKit (Below)
noncomputable section
def E0:Hp:=⟨0, .nil⟩
def avSim:AV→AV→Bool
 | .str l n, .str l' n'=>sEq l n l' n'
 |u,v=>avBeq u v
def avSims:List AV→List AV→Bool
 |[],[]=>true
 |a::l,b::r=>chk (avSim a b) (avSims l r)
 |_,_=>false
def memoK(v:AV)(v':AV)(_:Hp):Bool:=chk (avSim v' v) (inHp E0 v)
def memoS:List (List AV × AV)→Call
 |[],_,_,_=>false
 |e::r,args,H,k=>bc (avSims args e.1) (k e.2 H) (memoS r args H k)
def natsBeq:List Nat→List Nat→Bool
 |[],[]=>true
 |a::l,b::r=>chk (Nat.beq a b) (natsBeq l r)
 |_,_=>false
def prsBeq:List (AV × AV)→List (AV × AV)→Bool
 |[],[]=>true
 |a::l,b::r=>chk (avBeq a.1 b.1) (chk (avBeq a.2 b.2) (prsBeq l r))
 |_,_=>false
def aoBeq:AO→AO→Bool
 | .free, .free=>true
 | .dead, .dead=>true
 | .map a, .map b=>prsBeq a b
 | .umap a, .umap b=>prsBeq a b
 | .siter a b c, .siter d e f=>chk (Nat.beq a d) (chk (Nat.beq b e) (Nat.beq c f))
 | .miter a b c, .miter d e f=>chk (Nat.beq a d) (chk (Nat.beq b e) (bc c f (bnot f)))
 | .mitv a b c, .mitv d e f=>chk (Nat.beq a d) (chk (Nat.beq b e) (natsBeq c f))
 |a,b=>cellsBeq a b
def htBeq:Tr AO→Tr AO→Bool
 | .nil, .nil=>true
 | .nd v l r, .nd v' l' r'=>chk (aoBeq v v') (chk (htBeq l l') (htBeq r r'))
 |_,_=>false
def hpBeq(H K:Hp):Bool:=chk (Nat.beq H.next K.next) (htBeq H.t K.t)
def domLe:Tr AO→Tr AO→Bool
 | .nil,_=>true
 | .nd v l r, .nil=>chk (isFree v) (chk (domLe l .nil) (domLe r .nil))
 | .nd v l r, .nd v' l' r'=>chk (bc (isFree v) true (bnot (isFree v'))) (chk (domLe l l') (domLe r r'))
def inPrs(H1:Hp):List (AV × AV)→Bool
 |[]=>true
 |e::r=>chk (inHp H1 e.1) (chk (inHp H1 e.2) (inPrs H1 r))
def partOkD(H1:Hp)(H:Hp)(b:Nat):Bool:=match hget H b with
 | .cells _ _ c=>inCells H1 c.t c.n
 | .dead=>true
 | .map es=>inPrs H1 es
 | .umap es=>inPrs H1 es
 | .siter _ _ _=>true
 | .miter m _ _=>bnot (isFree (hget H1 m))
 | .mitv m _ _=>bnot (isFree (hget H1 m))
 |_=>false
def ckK(ids:List Nat)(H0:Hp)(v:AV)(H1:Hp)(v':AV)(H':Hp):Bool:=
 chk (avBeq v' v) (chk (hpBeq (pick H' ids) H1) (chk (lall (partOkD (pick H' ids) H') ids) (chk (domLe H0.t H1.t) (inHp H1 v))))
def ckS(args0:List AV)(H0:Hp)(v:AV)(H1:Hp):Call:=fun args H k=>chk (avBeqs args args0) (chk (hpBeq H H0) (k v H1))
def orS(a b:Call):Call:=fun args H k=>bc (a args H k) true (b args H k)
def repNat(l n c:Nat):Nat:=Nat.mul (Nat.mod n (p256 l)) (Nat.div (Nat.sub (p256 (Nat.mul l c)) 1) (Nat.sub (p256 l) 1))
def repS:Call:=fun args H k=>match args with
 |[.str l n, .int .i64 (.ofNat c)]=>chk (Nat.ble c 9223372036854775807) (chk (Nat.ble (Nat.mul l c) 140737488355328) (k (.str (Nat.mul l c) (repNat l n c)) H))
 |_=>false
def ixbX:Call:=fun args H k=>match args with
 |[.str l n, .int .u8 (.ofNat b)]=>k (.int .i64 (Lib.indexByte (unpack l n) (Int.ofNat b).toNat.toUInt8)) H
 |_=>false
def nescX:Call:=fun args H k=>match args with|[v]=>k v H|_=>false
end
theorem avSim_conc{u v:AV}(h:avSim u v=true)(σ:Sg):conc σ u=conc σ v:=by
 unfold avSim at h
 split at h
 ·rw[sEq_eq] at h
  simp only[conc,of_decide_eq_true h]
 ·rw[avBeq_eq _ _ h]
theorem avSims_conc: ∀ {u v:List AV},avSims u v=true→ ∀(σ:Sg),concL σ u=concL σ v
 |[],[],_,_=>rfl
 |[],_::_,h,_=>by cases h
 |_::_,[],h,_=>by cases h
 |a::l,b::r,h,σ=>by
  obtain ⟨h1,h2⟩:=chk_iff.1 (show chk (avSim a b) (avSims l r)=true from h)
  simp only[concL,avSim_conc h1 σ,avSims_conc h2 σ]
theorem hget_E0(id:Nat):hget E0 id= .free:=getT_nil _ _
theorem part_E0(H:Hp):HPart E0 H:=⟨fun id h=>absurd (hget_E0 id) h,fun id h=>absurd (hget_E0 id) h,fun id el sp c h=>by rw[hget_E0] at h;cases h⟩
theorem FunSpec.alike{P:Program}{f:Nat}{args args':List AV}{H:Hp}{v:AV}{H':Hp}(h:FunSpec P f args' H v H')(ha: ∀σ,concL σ args=concL σ args'):FunSpec P f args H v H':=
 ⟨h.1,fun pr w0 σ w xs hxs hs=>h.2 pr w0 σ w xs ((ha σ).symm.trans hxs) hs⟩
theorem FunSpec.value{P:Program}{f:Nat}{args:List AV}{H:Hp}{v v':AV}{H':Hp}(h:FunSpec P f args H v' H')(hv: ∀σ,conc σ v'=conc σ v):FunSpec P f args H v H':=
 ⟨h.1,fun pr w0 σ w xs hxs hs=>(h.2 pr w0 σ w xs hxs hs).mono fun en u hp=>by
  obtain ⟨x,rfl,τ,g1,g2,g3⟩:=callPost_ret hp
  exact ⟨τ,g1,(hv τ).symm.trans g2,g3⟩⟩
theorem memo_spec{P:Program}{F:Fs}(hF:FSound P F){f:Nat}{args:List AV}{v:AV}(ha:inHps E0 args=true)(h:F (.func f) args E0 (memoK v)=true)(H:Hp):FunSpec P f args H v H:=by
 obtain ⟨v',H',h1,h2⟩:=hF.func f args E0 _ h
 obtain ⟨h3,h4⟩:=chk_iff.1 h1
 have hv: ∀(σ τ:Sg) (x:Value),conc σ v=some x→conc τ v=some x:=fun σ τ x hx=>
  conc_mono (fun id e he=>absurd (hget_E0 id) (res_some.1 he).1) v x (conc_inHp (H:=E0) v x h4 hx)
 refine frame_calls (part_E0 H) ha hv fun pr w0 σ w xs hxs hs=>?_
 exact ((h2.value (avSim_conc h3)).2 pr w0 σ w xs hxs hs).mono fun en u hp=>⟨v,H',⟨rfl,fun id hid=>absurd (hget_E0 id) hid⟩,hp⟩
theorem memoS_sound{P:Program}{f:Nat}: ∀ {t:List (List AV × AV)},(∀e∈t, ∀H,FunSpec P f e.1 H e.2 H)→ ∀ {args:List AV} {H:Hp} {k:KV},memoS t args H k=true→ ∃v H',k v H'=true∧FunSpec P f args H v H'
 |[],_,args,H,k,h=>by cases h
 |e::r,ht,args,H,k,h=>by
  unfold memoS at h
  rw[bc_eq] at h
  split at h
  ·rename_i hs
   exact ⟨e.2,H,h,(ht e List.mem_cons_self H).alike (avSims_conc hs)⟩
  ·exact memoS_sound (fun x hx=>ht x (List.mem_cons_of_mem _ hx)) h
theorem orS_sound{P:Program}{f:Nat}{a b:Call}(ha: ∀args H k,a args H k=true→ ∃v H',k v H'=true∧FunSpec P f args H v H')(hb: ∀args H k,b args H k=true→ ∃v H',k v H'=true∧FunSpec P f args H v H'):
 ∀args H k,orS a b args H k=true→ ∃v H',k v H'=true∧FunSpec P f args H v H':=fun args H k h=>by
 unfold orS at h
 rw[bc_eq] at h
 split at h
 ·rename_i h1;exact ha _ _ _ h1
 ·exact hb _ _ _ h
theorem natsBeq_eq: ∀ {l r:List Nat},natsBeq l r=true→l=r
 |[],[],_=>rfl
 |[],_::_,h=>by cases h
 |_::_,[],h=>by cases h
 |a::l,b::r,h=>by
  obtain ⟨h1,h2⟩:=chk_iff.1 (show chk (Nat.beq a b) (natsBeq l r)=true from h)
  rw[beq_iff.1 h1,natsBeq_eq h2]
theorem prsBeq_eq: ∀ {l r:List (AV × AV)},prsBeq l r=true→l=r
 |[],[],_=>rfl
 |[],_::_,h=>by cases h
 |_::_,[],h=>by cases h
 |(a,a')::l,(b,b')::r,h=>by
  obtain ⟨h1,h2⟩:=chk_iff.1 (show chk (avBeq a b) (chk (avBeq a' b') (prsBeq l r))=true from h)
  obtain ⟨h2,h3⟩:=chk_iff.1 h2
  rw[avBeq_eq _ _ h1,avBeq_eq _ _ h2,prsBeq_eq h3]
theorem bEq_eq{a b:Bool}(h:bc a b (bnot b)=true):a=b:=by cases a <;> cases b <;> simp_all[bc,bnot]
theorem aoBeq_eq{a b:AO}(h:aoBeq a b=true):a=b:=by
 unfold aoBeq at h
 split at h
 ·rfl
 ·rfl
 ·rw[prsBeq_eq h]
 ·rw[prsBeq_eq h]
 ·obtain ⟨h1,h2⟩:=chk_iff.1 h
  obtain ⟨h2,h3⟩:=chk_iff.1 h2
  rw[beq_iff.1 h1,beq_iff.1 h2,beq_iff.1 h3]
 ·obtain ⟨h1,h2⟩:=chk_iff.1 h
  obtain ⟨h2,h3⟩:=chk_iff.1 h2
  rw[beq_iff.1 h1,beq_iff.1 h2,bEq_eq h3]
 ·obtain ⟨h1,h2⟩:=chk_iff.1 h
  obtain ⟨h2,h3⟩:=chk_iff.1 h2
  rw[beq_iff.1 h1,beq_iff.1 h2,natsBeq_eq h3]
 ·exact cellsBeq_eq h
theorem htBeq_eq: ∀ {a b:Tr AO},htBeq a b=true→a=b
 | .nil, .nil,_=>rfl
 | .nil, .nd _ _ _,h=>by cases h
 | .nd _ _ _, .nil,h=>by cases h
 | .nd v l r, .nd v' l' r',h=>by
   obtain ⟨h1,h2⟩:=chk_iff.1 h
   obtain ⟨h2,h3⟩:=chk_iff.1 h2
   rw[aoBeq_eq h1,htBeq_eq h2,htBeq_eq h3]
theorem hpBeq_eq{H K:Hp}(h:hpBeq H K=true):H=K:=by
 obtain ⟨n,t⟩:=H
 obtain ⟨n',t'⟩:=K
 obtain ⟨h1,h2⟩:=chk_iff.1 (show chk (Nat.beq n n') (htBeq t t')=true from h)
 rw[beq_iff.1 h1,htBeq_eq h2]
theorem domLe_get: ∀ {a b:Tr AO},domLe a b=true→ ∀p,getT AO.free p a≠ .free→getT AO.free p b≠ .free
 | .nil,_,_,p,hp=>absurd (getT_nil _ p) hp
 | .nd v l r, .nil,h,p,hp=>by
   obtain ⟨h1,h2⟩:=chk_iff.1 (show chk (isFree v) (chk (domLe l .nil) (domLe r .nil))=true by rw[domLe] at h;exact h)
   obtain ⟨h2,h3⟩:=chk_iff.1 h2
   cases p with
   |e=>exact absurd (isFree_iff.1 h1) hp
   |l p=>exact absurd (getT_nil _ p) (domLe_get h2 p hp)
   |r p=>exact absurd (getT_nil _ p) (domLe_get h3 p hp)
 | .nd v l r, .nd v' l' r',h,p,hp=>by
   obtain ⟨h1,h2⟩:=chk_iff.1 (show chk (bc (isFree v) true (bnot (isFree v'))) (chk (domLe l l') (domLe r r'))=true by rw[domLe] at h;exact h)
   obtain ⟨h2,h3⟩:=chk_iff.1 h2
   cases p with
   |e=>
    intro hf
    have e1:isFree v=false:=by cases hi:isFree v with|false=>rfl|true=>exact absurd (isFree_iff.1 hi) hp
    have e2:isFree v'=true:=isFree_iff.2 hf
    rw[e1,e2] at h1
    exact absurd h1 (by decide)
   |l p=>exact domLe_get h2 p hp
   |r p=>exact domLe_get h3 p hp
def GcOk(H1:Hp):AO→Prop
 | .cells _ _ c=> ∀i,i<c.n→inHp H1 (cget c.t i)=true
 | .dead=>True
 | .map es=> ∀e∈es,inHp H1 e.1=true∧inHp H1 e.2=true
 | .umap es=> ∀e∈es,inHp H1 e.1=true∧inHp H1 e.2=true
 | .siter _ _ _=>True
 | .miter m _ _=>hget H1 m≠ .free
 | .mitv m _ _=>hget H1 m≠ .free
 |_=>False
structure HGc (H1 H:Hp):Prop where
 sub: ∀id,hget H1 id≠ .free→hget H id=hget H1 id
 ok: ∀id,hget H1 id≠ .free→GcOk H1 (hget H1 id)
theorem inPrs_at{H1:Hp}: ∀ {es:List (AV × AV)},inPrs H1 es=true→ ∀e∈es,inHp H1 e.1=true∧inHp H1 e.2=true
 |[],_,e,he=>by cases he
 |a::es,h,e,he=>by
  obtain ⟨h1,h2⟩:=chk_iff.1 (show chk (inHp H1 a.1) (chk (inHp H1 a.2) (inPrs H1 es))=true from h)
  obtain ⟨h2,h3⟩:=chk_iff.1 h2
  rcases List.mem_cons.1 he with rfl|he
  ·exact ⟨h1,h2⟩
  ·exact inPrs_at h3 e he
theorem notFree_of{o:AO}(h:bnot (isFree o)=true):o≠ .free:=fun e=>by rw[e] at h;cases h
theorem pick_gc{H:Hp}{l:List Nat}(h:lall (partOkD (pick H l) H) l=true):HGc (pick H l) H:=by
 refine ⟨fun id hn=>(pick_get hn).2.symm,fun id hn=>?_⟩
 obtain ⟨h1,h2⟩:=pick_get hn
 have:=(lall_iff _ _).1 h id h1
 rw[h2]
 unfold partOkD at this
 split at this
 ·rename_i el sp c hc
  rw[hc];exact fun i hi=>inCells_at this i hi
 ·rename_i hc;rw[hc];trivial
 ·rename_i es hc;rw[hc];exact inPrs_at this
 ·rename_i es hc;rw[hc];exact inPrs_at this
 ·rename_i hc;rw[hc];trivial
 ·rename_i hc;rw[hc];exact notFree_of this
 ·rename_i hc;rw[hc];exact notFree_of this
 ·cases this
section
variable {P:Program} {pr:Nat→Prop} {w0 w:World} {σ:Sg} {H H1:Hp}
theorem EntsR.part: ∀ {es:List (AV × AV)} {l:List MapEntry},(∀e∈es,inHp H1 e.1=true∧inHp H1 e.2=true)→EntsR σ es l→EntsR (res σ H1) es l
 |[],[],_,_=>trivial
 |[],_::_,_,h=>h.elim
 |_::_,[],_,h=>h.elim
 |a::_,_::_,hin,h=>⟨⟨conc_inHp _ _ (hin a List.mem_cons_self).1 h.1.1,conc_inHp _ _ (hin a List.mem_cons_self).2 h.1.2⟩,EntsR.part (fun x hx=>hin x (List.mem_cons_of_mem _ hx)) h.2⟩
theorem BR.part{e:En}{o:AO}(h:BR σ w e o)(p:GcOk H1 o):BR (res σ H1) w e o:=by
 cases o with
 |free=>exact h
 |dead=>trivial
 |cells el sp c=>
  obtain ⟨arr,fz,k⟩:=h
  refine ⟨arr,fz,{k with cell:=fun i hi=>?_}⟩
  obtain ⟨x,x1,x2⟩:=k.cell i hi
  exact ⟨x,x1,conc_inHp _ _ (p i hi) x2⟩
 |map es=>
  obtain ⟨l,cl,h1,h2⟩:=h
  exact ⟨l,cl,h1,{h2 with ents:=h2.ents.part p}⟩
 |umap es=>
  obtain ⟨l,cl,h1,h2⟩:=h
  obtain ⟨l',p1,p2⟩:=h2.perm
  exact ⟨l,cl,h1,{h2 with perm:=⟨l',p1,p2.part p⟩}⟩
 |siter a b c=>exact h
 |miter m n0 d=>
  obtain ⟨h0,em,l,cl,si,se,st,h1,r⟩:=h
  exact ⟨h0,em,l,cl,si,se,st,res_some.2 ⟨p,h1⟩,r⟩
 |mitv m n se=>
  obtain ⟨h0,em,h1,r⟩:=h
  exact ⟨h0,em,res_some.2 ⟨p,h1⟩,r⟩
 |loop l=>exact p.elim
theorem Sim.part(h:Sim pr w0 σ H w)(p:HGc H1 H):Sim pr w0 (res σ H1) H1 w:=by
 refine ⟨h.size,h.os,h.tape,h.output,h.glob,h.prot,fun id e he=>?_,fun id e he=>h.lies id e (res_some.1 he).2,fun i j x y hx hy di dj hij=>?_⟩
 ·obtain ⟨p1,p2⟩:=res_some.1 he
  have:=h.dom id e p2
  rw[p.sub id p1] at this
  exact this.part (p.ok id p1)
 ·obtain ⟨p1,p2⟩:=res_some.1 hx
  obtain ⟨p3,p4⟩:=res_some.1 hy
  exact h.inj i j x y p2 p4 (by rw[p.sub i p1];exact di) (by rw[p.sub j p3];exact dj) hij
theorem FunSpec.gc{f:Nat}{args:List AV}{v:AV}{H':Hp}(h:FunSpec P f args H v H')(p:HGc H1 H')(hd:Stays H H1)(hv:inHp H1 v=true):FunSpec P f args H v H1:=by
 refine ⟨hd,fun pr w0 σ w xs hxs hs=>(h.2 pr w0 σ w xs hxs hs).mono fun en u hp=>?_⟩
 obtain ⟨x,rfl,τ,g1,g2,g3⟩:=callPost_ret hp
 refine ⟨res τ H1,⟨fun id e he=>res_some.2 ⟨hd id (hs.notFree he),g1.le id e he⟩,fun id hn hf=>?_,hd⟩,conc_inHp _ _ hv g2,g3.part p⟩
 obtain ⟨a,b⟩:=g1.out id hn hf
 refine ⟨?_,by rw[←b,p.sub id (hd id hf)]⟩
 cases hr:res τ H1 id with
 |none=>rfl
 |some e=>rw[(res_some.1 hr).2] at a;cases a
theorem ck_spec{F:Fs}(hF:FSound P F){f:Nat}{args:List AV}{v:AV}{ids:List Nat}(h:F (.func f) args H (ckK ids H v H1)=true):FunSpec P f args H v H1:=by
 obtain ⟨v',H',h1,h2⟩:=hF.func f args H _ h
 obtain ⟨h3,h4⟩:=chk_iff.1 h1
 obtain ⟨h4,h5⟩:=chk_iff.1 h4
 obtain ⟨h5,h6⟩:=chk_iff.1 h5
 obtain ⟨h6,h7⟩:=chk_iff.1 h6
 have e:=hpBeq_eq h4
 have hp:=pick_gc h5
 rw[e] at hp
 rw[avBeq_eq _ _ h3] at h2
 exact h2.gc hp (fun id hid=>domLe_get h6 _ hid) h7
theorem ckS_sound{f:Nat}{args0:List AV}{v:AV}(h:FunSpec P f args0 H v H1): ∀args H' k,ckS args0 H v H1 args H' k=true→ ∃u K,k u K=true∧FunSpec P f args H' u K:=fun args H' k hk=>by
 obtain ⟨h1,h2⟩:=chk_iff.1 (show chk (avBeqs args args0) (chk (hpBeq H' H) (k v H1))=true from hk)
 obtain ⟨h2,h3⟩:=chk_iff.1 h2
 rw[avBeqs_eq _ _ h1,hpBeq_eq h2]
 exact ⟨v,H1,h3,h⟩
theorem Sim.below{w':World}(h:Sim pr w0 σ H w)(hb:Below w.heap.size w w'):Sim pr w0 σ H w':=h.more ⟨hb.os,hb.tape,hb.output,hb.size,hb.block⟩
end
def geo(b:Nat):Nat→Nat
 |0=>0
 |c+1=>1+(b+1)*geo b c
theorem geo_pow(b:Nat): ∀c,(b+1) ^ c=1+b*geo b c
 |0=>by simp[geo]
 |c+1=>by
  rw[Nat.pow_succ,geo_pow b c,geo]
  generalize geo b c=g
  simp only[Nat.mul_add,Nat.add_mul,Nat.mul_one,Nat.one_mul]
  rw[Nat.mul_right_comm b g b,Nat.mul_assoc b b g]
  omega
theorem repNat_geo(l n c:Nat):repNat l n c=n % 256 ^ l*geo (256 ^ l-1) c:=by
 have hB:1≤256 ^ l:=Nat.one_le_pow _ _ (by decide)
 show Nat.mod n (p256 l)*((p256 (l*c)-1) / (p256 l-1))=_
 rw[p256_eq,p256_eq,Nat.pow_mul]
 obtain ⟨b,hb⟩: ∃b,256 ^ l=b+1:=⟨256 ^ l-1,by omega⟩
 rw[hb,geo_pow,Nat.add_sub_cancel_left,Nat.add_sub_cancel]
 cases b with
 |zero=>
  show n % 1*_=n % 1*_
  simp[Nat.mod_one]
 |succ b=>rw[Nat.mul_div_cancel_left _ (by omega)];rfl
theorem repNat_unpack(l n:Nat): ∀c,unpack (l*c) (repNat l n c)=Lib.repeatL (unpack l n) c
 |0=>rfl
 |c+1=>by
  have hB:1≤256 ^ l:=Nat.one_le_pow _ _ (by decide)
  have e:repNat l n (c+1)=scat l n (repNat l n c):=by
   show _=n % p256 l+repNat l n c*p256 l
   rw[repNat_geo,repNat_geo,p256_eq,geo,Nat.mul_add,Nat.mul_one,show 256 ^ l-1+1=256 ^ l by omega,Nat.mul_left_comm,Nat.mul_comm (256 ^ l)]
  rw[e,Nat.mul_succ,Nat.add_comm (l*c) l,scat_eq,repNat_unpack l n c]
  rfl
theorem repS_sound{P:Program}{f:Nat}(hr: ∀(s:ByteArray) (c:Nat) (w:World),c≤9223372036854775807→s.size*c≤140737488355328→Calls P f #[.string s, .int .i64 c] w fun e w'=>e= .returned (.string ⟨(Lib.repeatL s.data.toList c).toArray⟩)∧Below w.heap.size w w'):
 ∀args H k,repS args H k=true→ ∃v H',k v H'=true∧FunSpec P f args H v H':=fun args H k h=>by
 unfold repS at h
 split at h
 ·rename_i l n c
  obtain ⟨h1,h2⟩:=chk_iff.1 h
  obtain ⟨h2,h3⟩:=chk_iff.1 h2
  refine ⟨_,H,h3,Stays.refl H,fun pr w0 σ w xs hxs hs=>?_⟩
  have hx:xs=[.string ⟨(unpack l n).toArray⟩, .int .i64 c]:=by
   simp only[concL,conc] at hxs
   exact (Option.some.inj hxs).symm
  subst hx
  refine (hr ⟨(unpack l n).toArray⟩ c w (Nat.le_of_ble_eq_true h1) (by
   have:(ByteArray.mk (unpack l n).toArray).size=l:=by simp[ByteArray.size,unpack_length]
   rw[this];exact Nat.le_of_ble_eq_true h2)).mono fun en u ⟨e1,e2⟩=>?_
  subst e1
  refine ⟨σ,Grows.refl σ H,?_,hs.below e2⟩
  simp only[conc,Option.some.injEq,Value.string.injEq]
  rw[show unpack (Nat.mul l c) (repNat l n c)=Lib.repeatL (unpack l n) c from repNat_unpack l n c]
 ·cases h
theorem ixbX_sound{P:Program}{f:Nat}{fn:Func}(hf:P.funcs[f]? =some fn)(hname:(fn.name== "runtime.NumGoroutine")=false)(hb:fn.body.isNone=true)(hn:Extern.findNext fn=none)(he:Extern.find fn=some Extern.BytealgIndexByte.indexByte):
 ∀args H k,ixbX args H k=true→ ∃v H',k v H'=true∧ExtSpec P f args H v H':=fun args H k h=>by
 unfold ixbX at h
 split at h
 ·rename_i l n b
  refine ⟨_,H,h,Stays.refl H,fun pr w0 σ w xs hxs hs=>?_⟩
  have hx:xs=[.string ⟨(unpack l n).toArray⟩, .int .u8 b]:=by
   simp only[concL,conc] at hxs
   exact (Option.some.inj hxs).symm
  subst hx
  refine ⟨_,w,?_,σ,Grows.refl σ H,rfl,hs⟩
  rw[run_callFunc_extern hf hname hb hn he]
  exact congrArg (fun r=>Result.andThen r fun v w'=>Result.ok (Next.value v) w') (Lib.run_indexByteString (P:=P) ⟨(unpack l n).toArray⟩ b w)
 ·cases h
theorem nescX_sound{P:Program}{f:Nat}{fn:Func}(hf:P.funcs[f]? =some fn)(hname:(fn.name== "runtime.NumGoroutine")=false)(hb:fn.body.isNone=true)(hn:Extern.findNext fn=none)(he:Extern.find fn=some Extern.AbiNoEscape.same):
 ∀args H k,nescX args H k=true→ ∃v H',k v H'=true∧ExtSpec P f args H v H':=fun args H k h=>by
 unfold nescX at h
 split at h
 ·rename_i v
  refine ⟨v,H,h,Stays.refl H,fun pr w0 σ w xs hxs hs=>?_⟩
  simp only[concL] at hxs
  split at hxs
  ·rename_i x ys hx hys
   obtain rfl:=Option.some.inj hys
   obtain rfl:=Option.some.inj hxs
   refine ⟨x,w,?_,σ,Grows.refl σ H,hx,hs⟩
   rw[run_callFunc_extern hf hname hb hn he]
   rfl
  ·cases hxs
 ·cases h
end Go.Ev
namespace Go.Ev
open Go.RowKit (Below)
noncomputable section
mutual
def ground:AV→Bool
 | .bool _=>true
 | .int _ _=>true
 | .str _ _=>true
 | .nilp=>true
 | .nils=>true
 | .nilm=>true
 | .nilf=>true
 | .nili=>true
 | .agg l=>grounds l
 | .tup l=>grounds l
 | .ifc _ v=>ground v
 |_=>false
def grounds:List AV→Bool
 |[]=>true
 |v::l=>chk (ground v) (grounds l)
end
def repB:Call:=fun args H k=>match args with
 |[.int .u8 (.ofNat b), .int .i64 (.ofNat c)]=>chk (Nat.blt b 256) (chk (Nat.ble c 1000000) (k (.str (Nat.mul 1 c) (repNat 1 b c)) H))
 |_=>false
end
mutual
theorem ground_conc(σ τ:Sg): ∀(v:AV),ground v=true→conc σ v=conc τ v
 | .bool _,_=>rfl
 | .int _ _,_=>rfl
 | .str _ _,_=>rfl
 | .nilp,_=>rfl
 | .nils,_=>rfl
 | .nilm,_=>rfl
 | .nilf,_=>rfl
 | .nili,_=>rfl
 | .agg l,h=>by simp only[conc];rw[grounds_conc σ τ l (by simpa[ground] using h)]
 | .tup l,h=>by simp only[conc];rw[grounds_conc σ τ l (by simpa[ground] using h)]
 | .ifc _ v,h=>by simp only[conc];rw[ground_conc σ τ v (by simpa[ground] using h)]
 | .ptr _ _,h=>by simp[ground] at h
 | .sl _ _ _ _,h=>by simp[ground] at h
 | .su _ _ _ _,h=>by simp[ground] at h
 | .se _ _ _ _,h=>by simp[ground] at h
 | .opq _ _,h=>by simp[ground] at h
 | .mp _,h=>by simp[ground] at h
 | .fn _ _ _,h=>by simp[ground] at h
theorem grounds_conc(σ τ:Sg): ∀(l:List AV),grounds l=true→concL σ l=concL τ l
 |[],_=>rfl
 |v::l,h=>by
  obtain ⟨h1,h2⟩:=chk_iff.1 (show chk (ground v) (grounds l)=true by simpa[grounds] using h)
  simp only[concL]
  rw[ground_conc σ τ v h1,grounds_conc σ τ l h2]
end
theorem sumG_sound{P:Program}{X:Nat→Option Call}{F:Fs}(hX:XSound P X)(hF:FSound P F)(hm:P.follows .mixedOrders=true){f:Nat}{ids:List AV→Hp→List Nat}: ∀ {vs:List AV},grounds vs=true→ ∀ {args:List AV} {H:Hp} {k:KV},sumM P X f F ids vs args H k=true→ ∃v H',k v H'=true∧FunSpec P f args H v H'
 |[],_,args,H,k,h=>by cases h
 |v::vs,hv,args,H,k,h=>by
  obtain ⟨hv1,hv2⟩:=chk_iff.1 (show chk (ground v) (grounds vs)=true by simpa[grounds] using hv)
  unfold sumM at h
  rw[bc_eq] at h
  split at h
  ·rename_i ht
   refine ⟨v,H,h,?_⟩
   obtain ⟨h1,h2⟩:=chk_iff.1 (show chk (inHps (pick H (ids args H)) args) _=true from ht)
   obtain ⟨h4,h3⟩:=chk_iff.1 h2
   refine frame_calls (pick_part h4) h1 (fun σ τ x hx=>by rw[←ground_conc σ τ v hv1];exact hx) fun pr w0 σ w xs hxs hs=>?_
   refine (prepFM_sound hX hF hm h3 pr w0 σ w xs hxs hs).mono fun en u ⟨v',H',k1,k2⟩=>⟨v',H',?_,k2⟩
   obtain ⟨k3,k4⟩:=chk_iff.1 k1
   exact ⟨avBeq_eq _ _ k3,sameOn_all k4⟩
  ·exact sumG_sound hX hF hm hv2 h
theorem repeat_one(b:UInt8): ∀c,Lib.repeatL [b] c=List.replicate c b
 |0=>rfl
 |c+1=>by rw[List.replicate_succ, ←repeat_one b c];rfl
theorem unpack_byte(b:Nat)(h:b<256):unpack 1 b=[UInt8.ofNat b]:=by
 simp[unpack,Nat.mod_eq_of_lt h]
theorem repB_sound{P:Program}{f:Nat}(hr: ∀(b c:Nat) (w:World),b<256→c≤1000000→Calls P f #[.int .u8 (b:Nat), .int .i64 (c:Nat)] w fun e w'=>e= .returned (.string ⟨(List.replicate c (UInt8.ofNat b)).toArray⟩)∧Below w.heap.size w w'):
 ∀args H k,repB args H k=true→ ∃v H',k v H'=true∧FunSpec P f args H v H':=fun args H k h=>by
 unfold repB at h
 split at h
 ·rename_i b c
  obtain ⟨h1,h2⟩:=chk_iff.1 h
  obtain ⟨h2,h3⟩:=chk_iff.1 h2
  have hb:b<256:=blt_iff.1 h1
  refine ⟨_,H,h3,Stays.refl H,fun pr w0 σ w xs hxs hs=>?_⟩
  have hx:xs=[.int .u8 (b:Nat), .int .i64 (c:Nat)]:=by
   simp only[concL,conc] at hxs
   exact (Option.some.inj hxs).symm
  subst hx
  refine (hr b c w hb (Nat.le_of_ble_eq_true h2)).mono fun en u ⟨e1,e2⟩=>?_
  subst e1
  refine ⟨σ,Grows.refl σ H,?_,hs.below e2⟩
  simp only[conc,Option.some.injEq,Value.string.injEq]
  rw[show unpack (Nat.mul 1 c) (repNat 1 b c)=Lib.repeatL (unpack 1 b) c from repNat_unpack 1 b c,unpack_byte b hb,repeat_one]
 ·cases h
theorem fun_spec_value{P:Program}{f:Nat}{args:List AV}{v:AV}{xs0:List Value}{x0:Value}(ha: ∀σ xs,concL σ args=some xs→xs=xs0)(hv: ∀σ,conc σ v=some x0)
 (hc: ∀(pr:Nat→Prop) (w:World),Glob pr w→Calls P f xs0.toArray w fun e u=>e= .returned x0∧Below w.heap.size w u) (H:Hp):FunSpec P f args H v H:=
 ⟨Stays.refl H,fun pr w0 σ w xs hxs hs=>by
  rw[ha σ xs hxs]
  refine (hc pr w (hs.glob.mono (fun _ h=>h) fun b hb=>(hs.prot b hb).2)).mono fun en u ⟨e1,e2⟩=>?_
  subst e1
  exact ⟨σ,Grows.refl σ H,hv σ,hs.below e2⟩⟩
noncomputable def addS(S:Nat→Option Call)(g:Nat)(c:Call):Nat→Option Call:=fun f=>bc (Nat.beq f g) (some c) (S f)
theorem addS_sound{P:Program}{S:Nat→Option Call}(hS:SSound P S){g:Nat}{c:Call}(hc: ∀args H k,c args H k=true→ ∃v H',k v H'=true∧FunSpec P g args H v H'):SSound P (addS S g c):=fun f x hx args H k hk=>by
 unfold addS at hx
 rw[bc_eq] at hx
 split at hx
 ·rename_i hf
  obtain rfl:=Option.some.inj hx
  obtain rfl:=Nat.eq_of_beq_eq_true hf
  exact hc args H k hk
 ·exact hS f x hx args H k hk
end Go.Ev
end
section
namespace Go.Ev
noncomputable section
def htLe:Tr AO→Tr AO→Bool
 | .nil,_=>true
 | .nd v l r, .nil=>chk (isFree v) (chk (htLe l .nil) (htLe r .nil))
 | .nd v l r, .nd v' l' r'=>chk (bc (isFree v) true (aoBeq v v')) (chk (htLe l l') (htLe r r'))
def colI(A:List (List Int))(j:Nat):List Int:=A.map fun r=>r.getD j 0
def opqL(s:Nat)(A:List (List Int)):Nat→Nat→List AV
 |0,_=>[]
 |m+1,j=> .opq s (colI A j)::opqL s A m (j+1)
def oneA:List AV→List Int→Bool
 |[],[]=>true
 | .int j a::l,b::r=>chk (sameK j .i64) (chk (ieq a b) (oneA l r))
 |_,_=>false
def anyA(l:List AV):List (List Int)→Bool
 |[]=>false
 |a::A=>bc (oneA l a) true (anyA l A)
def frkC(A:List (List Int))(el m:Nat)(el':Nat)(sp:Bool)(c:Cs):Bool:=chk (Nat.beq el' el) (chk sp (chk (Nat.beq c.n m) (clist c 0 m fun l=>anyA l A)))
def frkB(A:List (List Int))(el n esz:Nat)(H H':Hp)(b off len z:Nat):Bool:=
 chk (Nat.beq off 0) (chk (Nat.beq len n) (chk (Nat.beq z esz) (chk (isFree (hget H b)) (chk (htLe H.t H'.t) (hcells H' b (frkC A el (Nat.mul n esz)))))))
def frkK(A:List (List Int))(el n esz:Nat)(H:Hp)(v:AV)(H':Hp):Bool:=asSlc v false (fun _ _ _ _=>false) (frkB A el n esz H H')
section
variable (P:Program) (X:Nat→Option Call) (f:Nat) (F:Fs)
def frkE(A:List (List Int))(el n esz:Nat)(H:Hp)(k:KV):Bool:=
 halloc H .dead fun s H1=>halloc H1 (.cells el true (csOf (opqL s A (n*esz) 0))) fun a H2=>k (.su a 0 n esz) H2
def forkS:List (List (List Int) × Nat × Nat × Nat)→Call
 |[],_,_,_=>false
 |x::r,args,H,k=>bc ((prepFM P X f).run F args H (frkK x.1 x.2.1 x.2.2.1 x.2.2.2 H)) (frkE x.1 x.2.1 x.2.2.1 x.2.2.2 H k) (forkS r args H k)
end
end
theorem htLe_get: ∀ {a b:Tr AO},htLe a b=true→ ∀p,getT AO.free p a≠ .free→getT AO.free p b=getT AO.free p a
 | .nil,_,_,p,hp=>absurd (getT_nil _ p) hp
 | .nd v l r, .nil,h,p,hp=>by
   obtain ⟨h1,h2⟩:=chk_iff.1 (show chk (isFree v) (chk (htLe l .nil) (htLe r .nil))=true by rw[htLe] at h;exact h)
   obtain ⟨h2,h3⟩:=chk_iff.1 h2
   cases p with
   |e=>exact absurd (isFree_iff.1 h1) hp
   |l p=>
    have:=htLe_get h2 p hp
    rw[getT_nil] at this
    exact absurd this.symm hp
   |r p=>
    have:=htLe_get h3 p hp
    rw[getT_nil] at this
    exact absurd this.symm hp
 | .nd v l r, .nd v' l' r',h,p,hp=>by
   obtain ⟨h1,h2⟩:=chk_iff.1 (show chk (bc (isFree v) true (aoBeq v v')) (chk (htLe l l') (htLe r r'))=true by rw[htLe] at h;exact h)
   obtain ⟨h2,h3⟩:=chk_iff.1 h2
   cases p with
   |e=>
    have e1:isFree v=false:=by cases hi:isFree v with|false=>rfl|true=>exact absurd (isFree_iff.1 hi) hp
    rw[e1] at h1
    exact (aoBeq_eq h1).symm
   |l p=>exact htLe_get h2 p hp
   |r p=>exact htLe_get h3 p hp
theorem opqL_length(s:Nat)(A:List (List Int)): ∀m j,(opqL s A m j).length=m
 |0,_=>rfl
 |m+1,j=>by rw[opqL,List.length_cons,opqL_length s A m (j+1)]
theorem opqL_get(s:Nat)(A:List (List Int)): ∀m j i,i<m→(opqL s A m j)[i]? =some (.opq s (colI A (j+i)))
 |0,_,i,h=>absurd h (Nat.not_lt_zero i)
 |m+1,j,0,_=>rfl
 |m+1,j,i+1,h=>by
  rw[opqL,List.getElem?_cons_succ,opqL_get s A m (j+1) i (Nat.lt_of_succ_lt_succ h),Nat.add_right_comm,Nat.add_assoc]
theorem oneA_get: ∀ {l:List AV} {a:List Int},oneA l a=true→ ∀(i:Nat) (v:AV),l[i]? =some v→ ∃n:Int,a[i]? =some n∧v=AV.int .i64 n
 |[],_,_,i,v,hv=>by simp at hv
 |x::l,[],h,i,v,hv=>by cases x <;> simp[oneA] at h
 |x::l,b::r,h,i,v,hv=>by
  unfold oneA at h
  split at h
  ·simp_all
  ·rename_i e1 e2
   injection e1 with e1 e3
   injection e2 with e2 e4
   subst e1;subst e2;subst e3;subst e4
   obtain ⟨h1,h2⟩:=chk_iff.1 h
   obtain ⟨h2,h3⟩:=chk_iff.1 h2
   obtain rfl:=sameK_iff.1 h1
   rw[ieq_eq] at h2
   cases i with
   |zero=>
    simp only[List.getElem?_cons_zero,Option.some.injEq] at hv ⊢
    exact ⟨_,rfl,by rw[←hv,of_decide_eq_true h2]⟩
   |succ i=>exact oneA_get h3 i v (by simpa using hv)
  ·cases h
theorem anyA_at{l:List AV}: ∀ {A:List (List Int)},anyA l A=true→ ∃(i:Nat) (a:List Int),A[i]? =some a∧oneA l a=true
 |[],h=>by cases h
 |a::A,h=>by
  unfold anyA at h
  rw[bc_eq] at h
  split at h
  ·rename_i h1;exact ⟨0,a,rfl,h1⟩
  ·obtain ⟨i,b,h1,h2⟩:=anyA_at h;exact ⟨i+1,b,h1,h2⟩
theorem colI_get{A:List (List Int)}{i j:Nat}{a:List Int}{n:Int}(h:A[i]? =some a)(k:a[j]? =some n):(colI A j)[i]? =some n:=by
 unfold colI
 rw[List.getElem?_map,h]
 simp[List.getD,k]
theorem forkS_sound{P:Program}{X:Nat→Option Call}{F:Fs}(hX:XSound P X)(hF:FSound P F)(hm:P.follows .mixedOrders=true){f:Nat}: ∀ {xs:List (List (List Int) × Nat × Nat × Nat)}, ∀ {args:List AV} {H:Hp} {k:KV},forkS P X f F xs args H k=true→ ∃v H',k v H'=true∧FunSpec P f args H v H'
 |[],_,_,_,h=>by cases h
 |(A,el,n,esz)::r,args,H,k,h=>by
  unfold forkS at h
  rw[bc_eq] at h
  split at h
  ·rename_i hrun
   obtain ⟨s,hs0,h1⟩:=halloc_true (show halloc H .dead _=true from h)
   obtain ⟨a,ha0,h2⟩:=halloc_true h1
   have hsa:a≠s:=fun e=>by rw[e,hget_alloc_self] at ha0;cases ha0
   have haf:hget H a= .free:=by rwa [hget_alloc_ne _ _ hsa] at ha0
   refine ⟨_,_,h2,fun id hid=>?_,fun pr w0 σ w xs hxs hs=>?_⟩
   ·by_cases e1:id=a
    ·rw[e1,hget_alloc_self];simp
    ·rw[hget_alloc_ne _ _ e1]
     by_cases e2:id=s
     ·rw[e2,hget_alloc_self];simp
     ·rw[hget_alloc_ne _ _ e2];exact hid
   ·refine (prepFM_sound hX hF hm hrun pr w0 σ w xs hxs hs).mono fun en u ⟨v',H',k1,k2⟩=>?_
    obtain ⟨x,rfl,τ,g1,g2,g3⟩:=callPost_ret k2
    rcases asSlc_true k1 with ⟨_,kk⟩|⟨_,_,_,_,_,kk⟩|⟨b,off,len,z,rfl,kk⟩
    ·cases kk
    ·cases kk
    obtain ⟨q1,kk1⟩:=chk_iff.1 kk
    obtain ⟨q2,kk2⟩:=chk_iff.1 kk1
    obtain ⟨q3,kk3⟩:=chk_iff.1 kk2
    obtain ⟨q4,kk4⟩:=chk_iff.1 kk3
    obtain ⟨q5,kk5⟩:=chk_iff.1 kk4
    obtain rfl:=beq_iff.1 q1
    obtain rfl:=beq_iff.1 q2
    obtain rfl:=beq_iff.1 q3
    obtain ⟨el',sp,c,hb,kk6⟩:=hcells_true kk5
    obtain ⟨q6,kk7⟩:=chk_iff.1 kk6
    obtain ⟨q7,kk8⟩:=chk_iff.1 kk7
    obtain ⟨q8,kk9⟩:=chk_iff.1 kk8
    obtain rfl:=beq_iff.1 q6
    subst q7
    have hn:=beq_iff.1 q8
    obtain ⟨q9,kk10⟩:=clist_true kk9
    obtain ⟨i,alt,hi,halt⟩:=anyA_at kk10
    have hfb:=isFree_iff.1 q4
    have same: ∀id,hget H id≠ .free→hget H' id=hget H id:=fun id hid=>htLe_get q5 _ hid
    obtain ⟨e,e1,ez,et,rfl⟩:=conc_su g2
    have hd:=g3.dom b e e1
    rw[hb] at hd
    obtain ⟨arr,fz,hc⟩:=hd
    have hS:=hs.forget g1.le g3 same
    have sg:σ s=none:=hs.fresh hs0
    have ag:σ a=none:=hs.fresh haf
    have ag1:(σ.put s ⟨e.blk,i,0⟩) a=none:=by rw[Sg.put_ne _ _ hsa];exact ag
    have le1:=Sg.le_put σ (⟨e.blk,i,0⟩:En) sg
    have le2:=Sg.le_put (σ.put s ⟨e.blk,i,0⟩) e ag1
    have le:=Sg.le_trans le1 le2
    have ts:((σ.put s ⟨e.blk,i,0⟩).put a e) s=some ⟨e.blk,i,0⟩:=by rw[Sg.put_ne _ _ (Ne.symm hsa),Sg.put_self]
    have old: ∀id y,((σ.put s ⟨e.blk,i,0⟩).put a e) id=some y→id≠a→id≠s→σ id=some y:=fun id y hy h3 h4=>by
     rwa [Sg.put_ne _ _ h3,Sg.put_ne _ _ h4] at hy
    refine ⟨(σ.put s ⟨e.blk,i,0⟩).put a e,⟨le,fun id h3 h4=>?_,fun id h3=>?_⟩,?_,?_⟩
    ·have n1:id≠a:=fun e'=>h4 (e'▸haf)
     have n2:id≠s:=fun e'=>h4 (e'▸hs0)
     exact ⟨by rw[Sg.put_ne _ _ n1,Sg.put_ne _ _ n2];exact h3,by rw[hget_alloc_ne _ _ n1,hget_alloc_ne _ _ n2]⟩
    ·by_cases n1:id=a
     ·rw[n1,hget_alloc_self];simp
     ·rw[hget_alloc_ne _ _ n1]
      by_cases n2:id=s
      ·rw[n2,hget_alloc_self];simp
      ·rw[hget_alloc_ne _ _ n2];exact h3
    ·simp only[conc,Sg.put_self,Option.bind_some,if_pos (⟨ez,et⟩:0<z∧0+len*z≤e.tot)]
    ·refine ⟨hS.size,hS.os,hS.tape,hS.output,hS.glob,hS.prot,fun id y hy=>?_,fun id y hy=>?_,fun p q y y' hy hy' dp dq hpq=>?_⟩
     ·by_cases n1:id=a
      ·subst n1
       rw[Sg.put_self] at hy
       obtain rfl:=Option.some.inj hy
       rw[hget_alloc_self]
       refine ⟨arr,fz,⟨hc.at_,?_,hc.room,fun j hj=>?_,hc.thaw,fun h=>by cases h⟩⟩
       ·rw[csOf_n,opqL_length];simpa using et
       ·rw[csOf_n,opqL_length] at hj
        obtain ⟨y,y1,y2⟩:=hc.cell j (by rw[hn];exact hj)
        refine ⟨y,y1,?_⟩
        rw[csOf_get _ _ (by rw[opqL_length];exact hj),List.getD_eq_getElem?_getD,opqL_get s A _ 0 j hj]
        obtain ⟨m,m1,m2⟩:=oneA_get halt j (cget c.t (0+j)) (by rw[List.getElem?_map,List.getElem?_range (show j<Nat.mul _ _ from hj)];rfl)
        rw[Nat.zero_add] at m2 ⊢
        rw[m2] at y2
        simp only[conc,Option.getD_some,ts,Option.bind_some,colI_get hi m1,Option.map_some]
        simpa[conc] using y2
      ·rw[hget_alloc_ne _ _ n1]
       by_cases n2:id=s
       ·subst n2;rw[hget_alloc_self];trivial
       ·rw[hget_alloc_ne _ _ n2];exact (hS.dom id y (old id y hy n1 n2)).mono le
     ·by_cases n1:id=a
      ·subst n1
       rw[Sg.put_self] at hy
       obtain rfl:=Option.some.inj hy
       exact g3.lies b e e1
      ·by_cases n2:id=s
       ·subst n2
        rw[ts] at hy
        obtain rfl:=Option.some.inj hy
        exact g3.lies b e e1
       ·exact hS.lies id y (old id y hy n1 n2)
     ·have nd: ∀id,hget (hallocK (hallocK H .dead s) (.cells el' true (csOf (opqL s A (len*z) 0))) a) id≠ .dead→id≠s:=fun id hid e'=>by
       rw[e',hget_alloc_ne _ _ (Ne.symm hsa),hget_alloc_self] at hid;exact hid rfl
      have live: ∀id,hget (hallocK (hallocK H .dead s) (.cells el' true (csOf (opqL s A (len*z) 0))) a) id≠ .dead→id≠a→hget H id≠ .dead:=fun id hid n1=>by
       have n2:=nd id hid
       rwa [hget_alloc_ne _ _ n1,hget_alloc_ne _ _ n2] at hid
      have far: ∀id y,σ id=some y→hget H id≠ .dead→y.blk≠e.blk:=fun id y hy hl=>
       g3.inj id b y e (g1.le id y hy) e1 (by rw[same id (hs.notFree hy)];exact hl) (by rw[hb];simp) (fun e'=>hs.notFree hy (e'▸hfb))
      by_cases p1:p=a
      ·subst p1
       rw[Sg.put_self] at hy
       obtain rfl:=Option.some.inj hy
       have n1:q≠p:=Ne.symm hpq
       exact Ne.symm (far q y' (old q y' hy' n1 (nd q dq)) (live q dq n1))
      ·by_cases q1:q=a
       ·subst q1
        rw[Sg.put_self] at hy'
        obtain rfl:=Option.some.inj hy'
        exact far p y (old p y hy p1 (nd p dp)) (live p dp p1)
       ·exact hS.inj p q y y' (old p y hy p1 (nd p dp)) (old q y' hy' q1 (nd q dq)) (live p dp p1) (live q dq q1) hpq
  ·exact forkS_sound hX hF hm h
end Go.Ev
namespace Go.Ev
noncomputable section
def pickI(s i:Nat):AV→AV
 | .opq b l=>bc (Nat.beq b s) (.int .i64 (l.getD i 0)) (.opq b l)
 |v=>v
def firstOpq:List AV→Option (Nat × List Int)
 |[]=>none
 | .opq s l::_=>some (s,l)
 |_::r=>firstOpq r
def firstSl:List AV→Option Nat
 |[]=>none
 | .su a _ _ _::_=>some a
 | .sl a _ _ _::_=>some a
 |_::r=>firstSl r
def ltA(n:Nat)(p:Nat→Bool):Bool:=Nat.rec (motive:=fun _=>Bool) true (fun i ih=>chk (p i) ih) n
section
variable (P:Program) (X:Nat→Option Call) (f:Nat) (F:Fs) (ids:List AV→Hp→List Nat)
def selH(H:Hp)(a el:Nat)(sp:Bool)(l:List AV)(s i:Nat):Hp:=hset H a (.cells el sp (csOf (l.map (pickI s i))))
def selT(v:AV)(args:List AV)(H:Hp):Bool:=tryV P X f F v args H (ids args H)
def selV(v:AV)(args:List AV)(H:Hp)(a el:Nat)(sp:Bool)(l:List AV)(s N:Nat):Bool:=ltA N fun i=>selT P X f F ids v args (selH H a el sp l s i)
def selE(vs:List AV)(args:List AV)(H:Hp)(k:KV)(a el:Nat)(sp:Bool)(l:List AV)(s N:Nat):Bool:=
 List.rec (motive:=fun _=>Bool) false (fun v _ ih=>bc (selV P X f F ids v args H a el sp l s N) (k v H) ih) vs
def selC(vs:List AV)(args:List AV)(H:Hp)(k:KV)(a el:Nat)(sp:Bool)(l:List AV):Bool:=
 match firstOpq l with|some (s,q)=>selE P X f F ids vs args H k a el sp l s q.length|none=>false
def selS(vs:List AV):Call:=fun args H k=>
 match firstSl args with|some a=>hcells H a fun el sp c=>clist c 0 c.n (selC P X f F ids vs args H k a el sp)|none=>false
end
end
theorem ltA_iff(n:Nat)(p:Nat→Bool):ltA n p=true→ ∀i,i<n→p i=true:=by
 induction n with
 |zero=>intro _ i hi;omega
 |succ n ih=>
  intro h i hi
  obtain ⟨h1,h2⟩:=chk_iff.1 (show chk (p n) (ltA n p)=true from h)
  by_cases e:i=n
  ·rw[e];exact h1
  ·exact ih h2 i (by omega)
theorem try_spec{P:Program}{X:Nat→Option Call}{F:Fs}(hX:XSound P X)(hF:FSound P F)(hm:P.follows .mixedOrders=true){f:Nat}{v:AV}(hv:ground v=true){args:List AV}{H:Hp}{l:List Nat}(ht:tryV P X f F v args H l=true):FunSpec P f args H v H:=by
 obtain ⟨h1,h2⟩:=chk_iff.1 (show chk (inHps (pick H l) args) _=true from ht)
 obtain ⟨h4,h3⟩:=chk_iff.1 h2
 refine frame_calls (pick_part h4) h1 (fun σ τ x hx=>by rw[←ground_conc σ τ v hv];exact hx) fun pr w0 σ w xs hxs hs=>?_
 refine (prepFM_sound hX hF hm h3 pr w0 σ w xs hxs hs).mono fun en u ⟨v',H',k1,k2⟩=>⟨v',H',?_,k2⟩
 obtain ⟨k3,k4⟩:=chk_iff.1 k1
 exact ⟨avBeq_eq _ _ k3,sameOn_all k4⟩
theorem Sim.recell{pr:Nat→Prop}{w0 w:World}{σ:Sg}{H K:Hp}(h:Sim pr w0 σ H w){a el:Nat}{sp:Bool}{c c':Cs}(hne: ∀id,id≠a→hget K id=hget H id)(ha:hget H a= .cells el sp c)(ka:hget K a= .cells el sp c')(hn:c'.n=c.n)
 (hc: ∀i x,i<c.n→conc σ (cget c.t i)=some x→conc σ (cget c'.t i)=some x):Sim pr w0 σ K w:=by
 have live: ∀id,hget K id≠ .dead→hget H id≠ .dead:=fun id hid=>by
  by_cases e:id=a
  ·rw[e,ha];simp
  ·rw[←hne id e];exact hid
 refine ⟨h.size,h.os,h.tape,h.output,h.glob,h.prot,fun id e he=>?_,h.lies,fun i j x y hx hy di dj hij=>h.inj i j x y hx hy (live i di) (live j dj) hij⟩
 by_cases e1:id=a
 ·have hd:=h.dom id e he
  rw[e1,ha] at hd
  obtain ⟨arr,fz,k⟩:=hd
  rw[e1,ka]
  refine ⟨arr,fz,⟨k.at_,by rw[hn];exact k.le,k.room,fun i hi=>?_,k.thaw,fun hs=>by rw[hn];exact k.whole hs⟩⟩
  rw[hn] at hi
  obtain ⟨x,x1,x2⟩:=k.cell i hi
  exact ⟨x,x1,hc i x hi x2⟩
 ·rw[hne id e1];exact h.dom id e he
theorem firstOpq_mem: ∀ {l:List AV} {s:Nat} {q:List Int},firstOpq l=some (s,q)→ ∃j:Nat,l[j]? =some (AV.opq s q)
 |[],_,_,h=>by cases h
 |x::r,s,q,h=>by
  unfold firstOpq at h
  split at h
  ·cases ‹_›
  ·rename_i e1
   injection e1 with e1 e2
   subst e1
   obtain ⟨rfl,rfl⟩:=Prod.mk.inj (Option.some.inj h)
   exact ⟨0,rfl⟩
  ·rename_i e1
   injection e1 with e1 e2
   subst e2
   obtain ⟨j,hj⟩:=firstOpq_mem h
   exact ⟨j+1,hj⟩
theorem pickI_conc{σ:Sg}{s:Nat}{e:En}(hs:σ s=some e)(v:AV)(x:Value):conc σ v=some x→conc σ (pickI s e.base v)=some x:=by
 intro h
 unfold pickI
 split
 ·rename_i b l
  rw[bc_eq]
  split
  ·rename_i hb
   obtain rfl:=beq_iff.1 hb
   obtain ⟨e',n,h1,h2,rfl⟩:=conc_opq h
   rw[hs] at h1
   obtain rfl:=Option.some.inj h1
   simp[conc,List.getD,h2]
  ·exact h
 ·exact h
theorem pickI_back{σ:Sg}{s:Nat}{e:En}(hs:σ s=some e)(v:AV)(x y:Value)(hy:conc σ v=some y)(h:conc σ (pickI s e.base v)=some x):conc σ v=some x:=by
 have:=pickI_conc hs v y hy
 rw[h] at this
 rw[hy,this]
theorem firstSl_known{σ:Sg}: ∀ {args:List AV} {a:Nat} {xs:List Value},firstSl args=some a→concL σ args=some xs→σ a≠none
 |[],_,_,h,_=>by cases h
 |x::r,a,xs,h,hx=>by
  simp only[concL] at hx
  split at hx
  ·rename_i u l hu hl
   unfold firstSl at h
   split at h
   ·cases ‹_›
   ·rename_i e1
    injection e1 with e1 e2
    subst e1
    obtain rfl:=Option.some.inj h
    obtain ⟨e,e3,_⟩:=conc_su hu
    rw[e3];simp
   ·rename_i e1
    injection e1 with e1 e2
    subst e1
    obtain rfl:=Option.some.inj h
    obtain ⟨e,e3,_⟩:=conc_sl hu
    rw[e3];simp
   ·rename_i e1
    injection e1 with e1 e2
    subst e2
    exact firstSl_known h hl
  ·cases hx
theorem selS_sound{P:Program}{X:Nat→Option Call}{F:Fs}(hX:XSound P X)(hF:FSound P F)(hm:P.follows .mixedOrders=true){f:Nat}{ids:List AV→Hp→List Nat}{vs:List AV}(hv:grounds vs=true){args:List AV}{H:Hp}{k:KV}(h:selS P X f F ids vs args H k=true): ∃v H',k v H'=true∧FunSpec P f args H v H':=by
 unfold selS at h
 split at h
 ·rename_i a ha
  have h1:=hcells_true h
  clear h
  obtain ⟨el,sp,c,hb,h2⟩:=h1
  have h3:=clist_true h2
  clear h2
  obtain ⟨-,h⟩:=h3
  unfold selC at h
  split at h
  ·rename_i s q hq
   generalize hl:(List.range c.n).map (fun i=>cget c.t (0+i))=l at h hq
   have hlen:l.length=c.n:=by rw[←hl];simp
   have hget': ∀i,i<c.n→l[i]? =some (cget c.t i):=fun i hi=>by rw[←hl,List.getElem?_map,List.getElem?_range hi];simp
   obtain ⟨j,hj⟩:=firstOpq_mem hq
   clear hl hq
   induction vs with
   |nil=>cases h
   |cons v vs ih=>
    obtain ⟨hv1,hv2⟩:=chk_iff.1 (show chk (ground v) (grounds vs)=true by simpa[grounds] using hv)
    have h':bc (selV P X f F ids v args H a el sp l s q.length) (k v H) (selE P X f F ids vs args H k a el sp l s q.length)=true:=h
    rw[bc_eq] at h'
    split at h'
    ·rename_i ht
     refine ⟨v,H,h',Stays.refl H,fun pr w0 σ w xs hxs hs=>?_⟩
     have hjl:j<c.n:=by
      rw[←hlen];exact (List.getElem?_eq_some_iff.1 hj).1
     have hsel:(∃e,σ s=some e∧e.base<q.length)∨σ a=none:=by
      cases hsa:σ a with
      |none=>exact .inr rfl
      |some ea=>
       have hd:=hs.dom a ea hsa
       rw[hb] at hd
       obtain ⟨arr,fz,kc⟩:=hd
       obtain ⟨x,x1,x2⟩:=kc.cell j hjl
       have e1:=hget' j hjl
       rw[hj] at e1
       rw[←Option.some.inj e1] at x2
       obtain ⟨e,n,y1,y2, -⟩:=conc_opq x2
       exact .inl ⟨e,y1,(List.getElem?_eq_some_iff.1 y2).1⟩
     rcases hsel with ⟨e,he,hlt⟩|hnone
     ·have spec:=try_spec hX hF hm hv1 (ltA_iff _ _ ht e.base hlt)
      have hself:hget (selH H a el sp l s e.base) a= .cells el sp (csOf (l.map (pickI s e.base))):=hget_hset_self _ _ _
      have hother: ∀id,id≠a→hget (selH H a el sp l s e.base) id=hget H id:=fun id hid=>hget_hset_ne _ _ hid
      have hnn:(csOf (l.map (pickI s e.base))).n=c.n:=by rw[csOf_n,List.length_map,hlen]
      have hcg: ∀i,i<c.n→cget (csOf (l.map (pickI s e.base))).t i=pickI s e.base (cget c.t i):=fun i hi=>by
       rw[csOf_get _ _ (by rw[List.length_map,hlen];exact hi),List.getD_eq_getElem?_getD,List.getElem?_map,hget' i hi];rfl
      have s1:=hs.recell hother hb hself hnn fun i x hi hx=>by rw[hcg i hi];exact pickI_conc he _ x hx
      refine (spec.2 pr w0 σ w xs hxs s1).mono fun en u hp=>?_
      obtain ⟨x,rfl,τ,g1,g2,g3⟩:=callPost_ret hp
      have te:=g1.le s e he
      refine ⟨τ,⟨g1.le,fun id h1 h2=>?_,fun id h1=>h1⟩,g2,?_⟩
      ·refine ⟨(g1.out id h1 ?_).1,rfl⟩
       by_cases e1:id=a
       ·rw[e1,hself];simp
       ·rw[hother id e1];exact h2
      ·cases hsa:τ a with
       |none=>
        refine ⟨g3.size,g3.os,g3.tape,g3.output,g3.glob,g3.prot,fun id e' he'=>?_,g3.lies,fun i1 j1 x y hx hy di dj hij=>g3.inj i1 j1 x y hx hy ?_ ?_ hij⟩
        ·have n1:id≠a:=fun e1=>by rw[e1,hsa] at he';cases he'
         have:=g3.dom id e' he'
         rwa [hother id n1] at this
        ·have n1:i1≠a:=fun e1=>by rw[e1,hsa] at hx;cases hx
         rw[hother i1 n1];exact di
        ·have n1:j1≠a:=fun e1=>by rw[e1,hsa] at hy;cases hy
         rw[hother j1 n1];exact dj
       |some ea=>
        cases hsa0:σ a with
        |none=>have:=(g1.out a hsa0 (by rw[hself];simp)).1;rw[hsa] at this;cases this
        |some e0=>
         have hd:=hs.dom a e0 hsa0
         rw[hb] at hd
         obtain ⟨arr,fz,kc⟩:=hd
         refine g3.recell (fun id hid=>(hother id hid).symm) hself hb hnn.symm fun i x hi hx=>?_
         rw[hnn] at hi
         rw[hcg i hi] at hx
         obtain ⟨y, -,y2⟩:=kc.cell i hi
         exact pickI_back te _ x y (conc_mono g1.le _ _ y2) hx
     ·
      exact absurd hnone (firstSl_known ha hxs)
    ·exact ih hv2 h'
  ·cases h
 ·cases h
end Go.Ev
namespace Go.Ev
noncomputable section
def cmpX:Call:=fun args H k=>match args with
 |[.str l n, .str l' n']=>k (.int .i64 (Lib.compareBytes (unpack l n) (unpack l' n'))) H
 |_=>false
def cntX:Call:=fun args H k=>match args with
 |[.str l n, .int .u8 (.ofNat b)]=>k (.int .i64 (.ofNat (Lib.countByte (unpack l n) (Int.ofNat b).toNat.toUInt8))) H
 |_=>false
end
theorem cmpX_sound{P:Program}{f:Nat}{fn:Func}(hf:P.funcs[f]? =some fn)(hname:(fn.name== "runtime.NumGoroutine")=false)(hb:fn.body.isNone=true)(hn:Extern.findNext fn=none)(he:Extern.find fn=some Extern.BytealgCompare.compare):
 ∀args H k,cmpX args H k=true→ ∃v H',k v H'=true∧ExtSpec P f args H v H':=fun args H k h=>by
 unfold cmpX at h
 split at h
 ·rename_i l n l' n'
  refine ⟨_,H,h,Stays.refl H,fun pr w0 σ w xs hxs hs=>?_⟩
  have hx:xs=[.string ⟨(unpack l n).toArray⟩, .string ⟨(unpack l' n').toArray⟩]:=by
   simp only[concL,conc] at hxs
   exact (Option.some.inj hxs).symm
  subst hx
  refine ⟨_,w,?_,σ,Grows.refl σ H,rfl,hs⟩
  rw[run_callFunc_extern hf hname hb hn he]
  exact congrArg (fun r=>Result.andThen r fun v w'=>Result.ok (Next.value v) w') (Lib.run_compareString (P:=P) ⟨(unpack l n).toArray⟩ ⟨(unpack l' n').toArray⟩ w)
 ·cases h
theorem cntX_sound{P:Program}{f:Nat}{fn:Func}(hf:P.funcs[f]? =some fn)(hname:(fn.name== "runtime.NumGoroutine")=false)(hb:fn.body.isNone=true)(hn:Extern.findNext fn=none)(he:Extern.find fn=some Extern.BytealgCount.count):
 ∀args H k,cntX args H k=true→ ∃v H',k v H'=true∧ExtSpec P f args H v H':=fun args H k h=>by
 unfold cntX at h
 split at h
 ·rename_i l n b
  refine ⟨_,H,h,Stays.refl H,fun pr w0 σ w xs hxs hs=>?_⟩
  have hx:xs=[.string ⟨(unpack l n).toArray⟩, .int .u8 b]:=by
   simp only[concL,conc] at hxs
   exact (Option.some.inj hxs).symm
  subst hx
  refine ⟨_,w,?_,σ,Grows.refl σ H,rfl,hs⟩
  rw[run_callFunc_extern hf hname hb hn he]
  exact congrArg (fun r=>Result.andThen r fun v w'=>Result.ok (Next.value v) w') (Lib.run_countString (P:=P) ⟨(unpack l n).toArray⟩ b w)
 ·cases h
end Go.Ev
namespace Go.Ev
noncomputable section
def mrgH:List (Nat × AO)→Hp→Hp
 |[],H=>H
 |x::l,H=>hset (mrgH l H) x.1 x.2
def mrgN(next:Nat)(l:List (Nat × AO))(H:Hp):Hp:=⟨next,(mrgH l H).t⟩
def gcOkB(H1:Hp)(o:AO):Bool:=match o with
 | .cells _ _ c=>inCells H1 c.t c.n
 | .map es=>inPrs H1 es
 | .umap es=>inPrs H1 es
 |_=>false
def mrgQ(H H2:Hp)(x:Nat × AO):Bool:=chk (isFree (hget H x.1)) (gcOkB H2 x.2)
def mrgB(H':Hp)(x:Nat × AO):Bool:=aoBeq (hget H' x.1) x.2
def mrgK(H:Hp)(v:AV)(l:List (Nat × AO))(v':AV)(H':Hp):Bool:=chk (avBeq v' v) (chk (htLe H.t H'.t) (lall (mrgB H') l))
section
variable (P:Program) (X:Nat→Option Call) (f:Nat) (F:Fs)
def mergeS:List (Nat × AV × List (Nat × AO) × Nat)→Call
 |[],_,_,_=>false
 |x::r,args,H,k=>bc (Nat.beq H.next x.1)
   (chk (lall (mrgQ H (mrgN x.2.2.2 x.2.2.1 H)) x.2.2.1) (chk (inHp (mrgN x.2.2.2 x.2.2.1 H) x.2.1) (chk ((prepFM P X f).run F args H (mrgK H x.2.1 x.2.2.1)) (k x.2.1 (mrgN x.2.2.2 x.2.2.1 H)))))
   (mergeS r args H k)
end
end
theorem mrg_get{H:Hp}(id:Nat): ∀(l:List (Nat × AO)),(hget (mrgH l H) id=hget H id)∨ ∃o,(id,o)∈l∧hget (mrgH l H) id=o
 |[]=> .inl rfl
 |x::l=>by
  by_cases e:id=x.1
  ·subst e
   exact .inr ⟨x.2,List.mem_cons_self,hget_hset_self _ _ _⟩
  ·have e1:hget (mrgH (x::l) H) id=hget (mrgH l H) id:=hget_hset_ne _ _ e
   rcases mrg_get id l with h|⟨o,h1,h2⟩
   ·exact .inl (e1.trans h)
   ·exact .inr ⟨o,List.mem_cons_of_mem _ h1,e1.trans h2⟩
theorem gcOkB_ok{H1:Hp}{o:AO}(h:gcOkB H1 o=true):GcOk H1 o∧o≠ .free:=by
 unfold gcOkB at h
 split at h
 ·exact ⟨fun i hi=>inCells_at h i hi,by simp⟩
 ·exact ⟨inPrs_at h,by simp⟩
 ·exact ⟨inPrs_at h,by simp⟩
 ·cases h
theorem mergeS_sound{P:Program}{X:Nat→Option Call}{F:Fs}(hX:XSound P X)(hF:FSound P F)(hm:P.follows .mixedOrders=true){f:Nat}: ∀ {xs:List (Nat × AV × List (Nat × AO) × Nat)} {args:List AV} {H:Hp} {k:KV},mergeS P X f F xs args H k=true→ ∃v H',k v H'=true∧FunSpec P f args H v H'
 |[],_,_,_,h=>by cases h
 |(key,v,l,next)::r,args,H,k,h=>by
  unfold mergeS at h
  rw[bc_eq] at h
  split at h
  ·obtain ⟨hq,h1⟩:=chk_iff.1 h
   obtain ⟨hin,h2⟩:=chk_iff.1 h1
   obtain ⟨hrun,h3⟩:=chk_iff.1 h2
   have hl: ∀x∈l,hget H x.1= .free∧GcOk (mrgN next l H) x.2∧x.2≠ .free:=fun x hx=>by
    obtain ⟨q1,q2⟩:=chk_iff.1 ((lall_iff _ _).1 hq x hx)
    exact ⟨isFree_iff.1 q1,gcOkB_ok q2⟩
   have hget2: ∀id,hget (mrgN next l H) id=hget H id∨ ∃o,(id,o)∈l∧hget (mrgN next l H) id=o:=fun id=>mrg_get id l
   have old: ∀id,hget H id≠ .free→hget (mrgN next l H) id=hget H id:=fun id hid=>by
    rcases hget2 id with e|⟨o,m1,m2⟩
    ·exact e
    ·exact absurd (hl _ m1).1 hid
   have stay:Stays H (mrgN next l H):=fun id hid=>by rw[old id hid];exact hid
   refine ⟨v,mrgN next l H,h3,stay,fun pr w0 σ w xs hxs hs=>(prepFM_sound hX hF hm hrun pr w0 σ w xs hxs hs).mono fun en u ⟨v',H',k1,k2⟩=>?_⟩
   obtain ⟨x,rfl,τ,g1,g2,g3⟩:=callPost_ret k2
   obtain ⟨q1,k3⟩:=chk_iff.1 k1
   obtain ⟨q2,q3⟩:=chk_iff.1 k3
   rw[avBeq_eq _ _ q1] at g2
   have same: ∀id,hget H id≠ .free→hget H' id=hget H id:=fun id hid=>htLe_get q2 _ hid
   have sub: ∀id,hget (mrgN next l H) id≠ .free→hget H' id=hget (mrgN next l H) id:=fun id hid=>by
    rcases hget2 id with e|⟨o,m1,m2⟩
    ·rw[e] at hid ⊢;exact same id hid
    ·rw[m2];exact aoBeq_eq ((lall_iff _ _).1 q3 _ m1)
   have hS:=hs.forget g1.le g3 same
   have le:σ.le (res τ (mrgN next l H)):=fun id e he=>res_some.2 ⟨stay id (hs.notFree he),g1.le id e he⟩
   refine ⟨res τ (mrgN next l H),⟨le,fun id n1 n2=>?_,stay⟩,conc_inHp _ _ hin g2,⟨hS.size,hS.os,hS.tape,hS.output,hS.glob,hS.prot,fun id e he=>?_,fun id e he=>g3.lies id e (res_some.1 he).2,fun i j y z hy hz di dj hij=>?_⟩⟩
   ·refine ⟨?_,old id n2⟩
    cases hr:res τ (mrgN next l H) id with
    |none=>rfl
    |some e=>exact absurd (res_some.1 hr).2 (by rw[(g1.out id n1 n2).1];simp)
   ·obtain ⟨p1,p2⟩:=res_some.1 he
    by_cases hf:hget H id= .free
    ·rcases hget2 id with e'|⟨o,m1,m2⟩
     ·rw[e',hf] at p1;exact absurd rfl p1
     ·have:=g3.dom id e p2
      rw[sub id p1,m2] at this
      rw[m2]
      exact this.part (hl _ m1).2.1
    ·cases hσ:σ id with
     |none=>rw[(g1.out id hσ hf).1] at p2;cases p2
     |some e0=>
      have:=g1.le id e0 hσ
      rw[p2] at this
      obtain rfl:=Option.some.inj this
      rw[old id hf]
      exact (hS.dom id e hσ).mono le
   ·obtain ⟨p1,p2⟩:=res_some.1 hy
    obtain ⟨p3,p4⟩:=res_some.1 hz
    exact g3.inj i j y z p2 p4 (by rw[sub i p1];exact di) (by rw[sub j p3];exact dj) hij
  ·exact mergeS_sound hX hF hm h
end Go.Ev
end
