/- Law 54, DefragCounts: a part of the proof. -/
import Derived.Test.YtihcgekdnljahaaGreatDoorQ01
import Derived.Laws.StructEq
import Derived.Laws.Cells
import Derived.Laws.BytesString
import Derived.MapKept
import Derived.Laws.RangeString
import Derived.Laws.MakeOwn
import Derived.Laws.Append
import Derived.Maps.RangeRun
import Derived.Lib.UnsafeStr
section
namespace Go.Ev
section ops
variable {P:Program} {rs:Rs} {o:Oper} {R:Fr}
theorem nilEqK_some{n:Nat}{x y:AV}{b:Bool}(h:nilEqK n x y=some b):kindAV x=n∧kindAV y=n∧((isNil x=some true∧isNil y=some b)∨(isNil x=some false∧isNil y=some true∧b=false)):=by
 unfold nilEqK at h
 rw[bc_eq] at h
 split at h
 ·rename_i h1
  rw[bc_eq] at h
  split at h
  ·rename_i h2
   refine ⟨beq_iff.1 h1,beq_iff.1 h2,?_⟩
   unfold nilEq at h
   split at h
   ·rename_i c hx hy;exact .inl ⟨hx,hy.trans h⟩
   ·rename_i hx hy;exact .inr ⟨hx,hy,(Option.some.inj h).symm⟩
   ·cases h
  ·cases h
 ·cases h
theorem kind1{σ:Sg}{x:AV}{v:Value}{c:Bool}(hk:kindAV x=1)(hn:isNil x=some c)(hc:conc σ x=some v): ∃p:Option Addr,v= .pointer p∧p.isNone=c:=by
 cases x <;> first|(cases hk;done)|skip
 ·simp only[conc,Option.some.injEq] at hc;subst hc;exact ⟨none,rfl,Option.some.inj hn⟩
 ·rename_i b i
  simp only[conc] at hc
  cases hb:σ b with
  |none=>simp[hb] at hc
  |some e=>simp[hb] at hc;subst hc;exact ⟨_,rfl,Option.some.inj hn⟩
theorem kind2{σ:Sg}{x:AV}{v:Value}{c:Bool}(hk:kindAV x=2)(hn:isNil x=some c)(hc:conc σ x=some v): ∃(p:Option Addr) (l k:Nat),v= .slice p l k∧p.isNone=c:=by
 cases x <;> first|(cases hk;done)|skip
 ·simp only[conc,Option.some.injEq] at hc;subst hc;exact ⟨none,0,0,rfl,Option.some.inj hn⟩
 ·obtain ⟨e,_,rfl⟩:=conc_sl hc;exact ⟨_,_,_,rfl,Option.some.inj hn⟩
 ·obtain ⟨e,_,_,_,rfl⟩:=conc_su hc;exact ⟨_,_,_,rfl,Option.some.inj hn⟩
theorem kind3{σ:Sg}{x:AV}{v:Value}{c:Bool}(hk:kindAV x=3)(hn:isNil x=some c)(hc:conc σ x=some v): ∃p:Option Nat,v= .map p∧p.isNone=c:=by
 cases x <;> first|(cases hk;done)|skip
 ·simp only[conc,Option.some.injEq] at hc;subst hc;exact ⟨none,rfl,Option.some.inj hn⟩
 ·rename_i b
  simp only[conc] at hc
  cases hb:σ b with
  |none=>simp[hb] at hc
  |some e=>simp[hb] at hc;subst hc;exact ⟨_,rfl,Option.some.inj hn⟩
theorem kind4{σ:Sg}{x:AV}{v:Value}{c:Bool}(hk:kindAV x=4)(hn:isNil x=some c)(hc:conc σ x=some v):(c=true∧v= .nilFunc)∨(c=false∧ ∃f a k,v= .func f a k):=by
 cases x <;> first|(cases hk;done)|skip
 ·simp only[conc] at hc
  split at hc
  ·simp only[Option.some.injEq] at hc;subst hc;exact .inr ⟨(Option.some.inj hn).symm,_,_,_,rfl⟩
  ·cases hc
 ·simp only[conc,Option.some.injEq] at hc;subst hc;exact .inl ⟨(Option.some.inj hn).symm,rfl⟩
theorem kind5{σ:Sg}{x:AV}{v:Value}{c:Bool}(hk:kindAV x=5)(hn:isNil x=some c)(hc:conc σ x=some v):(c=true∧v= .nilIface)∨(c=false∧ ∃t u,v= .iface t u):=by
 cases x <;> first|(cases hk;done)|skip
 ·rename_i t u
  simp only[conc] at hc
  cases hb:conc σ u with
  |none=>simp[hb] at hc
  |some e=>simp[hb] at hc;subst hc;exact .inr ⟨(Option.some.inj hn).symm,_,_,rfl⟩
 ·simp only[conc,Option.some.injEq] at hc;subst hc;exact .inl ⟨(Option.some.inj hn).symm,rfl⟩
theorem edEq_int{x y:AV}{b:Bool}(h:edEq .int x y=some b): ∃j m n,x= .int j m∧y= .int j n∧b=decide (m=n):=by
 cases x <;> first|(cases h;done)|skip
 cases y <;> first|(cases h;done)|skip
 rename_i j m j' n
 simp only[edEq,bc_eq] at h
 split at h
 ·rename_i hk
  obtain rfl:=sameK_iff.1 hk
  exact ⟨j,m,n,rfl,rfl,by rw[←Option.some.inj h,ieq_eq]⟩
 ·cases h
theorem edEq_str{x y:AV}{b:Bool}(h:edEq .str x y=some b): ∃la na lb nb,x= .str la na∧y= .str lb nb∧b=decide (unpack la na=unpack lb nb):=by
 cases x <;> first|(cases h;done)|skip
 cases y <;> first|(cases h;done)|skip
 rename_i la na lb nb
 exact ⟨la,na,lb,nb,rfl,rfl,by rw[←Option.some.inj h,sEq_eq]⟩
theorem edEq_bool{x y:AV}{b:Bool}(h:edEq .bool x y=some b): ∃p q,x= .bool p∧y= .bool q∧b=(p==q):=by
 cases x <;> first|(cases h;done)|skip
 cases y <;> first|(cases h;done)|skip
 rename_i p q
 exact ⟨p,q,rfl,rfl,by rw[←Option.some.inj h];cases p <;> cases q <;> rfl⟩
theorem edEq_ptr{x y:AV}{b:Bool}(h:edEq .ptr x y=some b):(∃c i j,x= .ptr c i∧y= .ptr c j∧b=decide (i=j))∨nilEqK 1 x y=some b:=by
 have h':ptrEq x y=some b:=h
 unfold ptrEq at h'
 split at h'
 ·rename_i a i c j
  rw[bc_eq] at h'
  split at h'
  ·rename_i hk
   obtain rfl:=beq_iff.1 hk
   refine .inl ⟨a,i,j,rfl,rfl,?_⟩
   rw[←Option.some.inj h']
   by_cases hij:i=j
   ·rw[beq_iff.2 hij];simp[hij]
   ·cases hb:Nat.beq i j with
    |false=>simp[hij]
    |true=>exact absurd (beq_iff.1 hb) hij
  ·cases h'
 ·exact .inr h'
theorem leaf_run{t:TypeId}{d:TypeDesc}(hu:tund P t=some d){e:ED}(he:leafOf P d=some e∨(∃ms,d= .interface ms∧e= .nilable 5)){x y:AV}{b:Bool}(h:edEq e x y=some b)
 {σ:Sg} {vx vy:Value} (hx:conc σ x=some vx) (hy:conc σ y=some vy) (n:Nat) (w:World):(Op.equalIn (n+1) t vx vy).run P w= .ok b w:=by
 have hu':=run_und hu w
 have nk: ∀m,e= .nilable m→nilEqK m x y=some b:=fun m hm=>by subst hm;exact h
 rcases he with he|⟨ms,rfl,rfl⟩
 ·unfold leafOf at he
  split at he
  ·obtain rfl:=Option.some.inj he
   obtain ⟨j,m,n,rfl,rfl,rfl⟩:=edEq_int h
   obtain rfl:=conc_int hx;obtain rfl:=conc_int hy
   simp[Op.equalIn,hu'];rfl
  ·obtain rfl:=Option.some.inj he
   obtain ⟨la,na,lb,nb,rfl,rfl,rfl⟩:=edEq_str h
   obtain rfl:=conc_str' hx;obtain rfl:=conc_str' hy
   simp[Op.equalIn,hu',beq_toListBytes,bts_toList]
   rw[Bool.eq_iff_iff];simp
  ·obtain rfl:=Option.some.inj he
   obtain ⟨p,q,rfl,rfl,rfl⟩:=edEq_bool h
   obtain rfl:=conc_bool hx;obtain rfl:=conc_bool hy
   simp[Op.equalIn,hu']
  ·rename_i el
   split at he
   ·cases he
   ·rename_i s hs0 hs
    obtain rfl:=Option.some.inj he
    rcases edEq_ptr h with ⟨c,i,j,rfl,rfl,rfl⟩|hn
    ·simp only[conc] at hx hy
     cases hb:σ c with
     |none=>simp[hb] at hx
     |some en=>
      simp[hb] at hx hy;subst hx;subst hy
      have hs': ¬s=0:=fun e=>hs0 e
      have hadr:((⟨en.blk,en.base+i,none⟩:Addr)==⟨en.blk,en.base+j,none⟩)=decide (i=j):=by
       rw[Bool.eq_iff_iff];simp
      simp[Op.equalIn,hu',run_sizeOf' hs,hs',sameAddr,hadr]
    ·obtain ⟨h1,h2,h3⟩:=nilEqK_some hn
     rcases h3 with ⟨h3,h4⟩|⟨h3,h4,rfl⟩
     ·obtain ⟨p,rfl,h5⟩:=kind1 h1 h3 hx
      obtain ⟨q,rfl,h6⟩:=kind1 h2 h4 hy
      simp at h5;subst h5
      simp[Op.equalIn,hu',h6]
     ·obtain ⟨p,rfl,h5⟩:=kind1 h1 h3 hx
      obtain ⟨q,rfl,h6⟩:=kind1 h2 h4 hy
      simp at h6;subst h6
      cases p with
      |none=>simp at h5
      |some p=>simp[Op.equalIn,hu']
   ·cases he
  ·obtain rfl:=Option.some.inj he
   obtain ⟨h1,h2,h3⟩:=nilEqK_some (nk 2 rfl)
   rcases h3 with ⟨h3,h4⟩|⟨h3,h4,rfl⟩
   ·obtain ⟨p,l,k,rfl,h5⟩:=kind2 h1 h3 hx
    obtain ⟨q,l',k',rfl,h6⟩:=kind2 h2 h4 hy
    simp at h5;subst h5
    simp[Op.equalIn,hu',h6]
   ·obtain ⟨p,l,k,rfl,h5⟩:=kind2 h1 h3 hx
    obtain ⟨q,l',k',rfl,h6⟩:=kind2 h2 h4 hy
    simp at h6;subst h6
    cases p with
    |none=>simp at h5
    |some p=>simp[Op.equalIn,hu']
  ·obtain rfl:=Option.some.inj he
   obtain ⟨h1,h2,h3⟩:=nilEqK_some (nk 3 rfl)
   rcases h3 with ⟨h3,h4⟩|⟨h3,h4,rfl⟩
   ·obtain ⟨p,rfl,h5⟩:=kind3 h1 h3 hx
    obtain ⟨q,rfl,h6⟩:=kind3 h2 h4 hy
    simp at h5;subst h5
    simp[Op.equalIn,hu',h6]
   ·obtain ⟨p,rfl,h5⟩:=kind3 h1 h3 hx
    obtain ⟨q,rfl,h6⟩:=kind3 h2 h4 hy
    simp at h6;subst h6
    cases p with
    |none=>simp at h5
    |some p=>simp[Op.equalIn,hu']
  ·obtain rfl:=Option.some.inj he
   obtain ⟨h1,h2,h3⟩:=nilEqK_some (nk 4 rfl)
   rcases h3 with ⟨h3,h4⟩|⟨h3,h4,rfl⟩
   ·rcases kind4 h1 h3 hx with ⟨_,rfl⟩|⟨h5,_⟩
    ·rcases kind4 h2 h4 hy with ⟨rfl,rfl⟩|⟨rfl,f,a,k,rfl⟩ <;> simp[Op.equalIn,hu']
    ·cases h5
   ·rcases kind4 h1 h3 hx with ⟨h5,_⟩|⟨_,f,a,k,rfl⟩
    ·cases h5
    ·rcases kind4 h2 h4 hy with ⟨_,rfl⟩|⟨h6,_⟩
     ·simp[Op.equalIn,hu']
     ·cases h6
  ·cases he
 ·obtain ⟨h1,h2,h3⟩:=nilEqK_some (nk 5 rfl)
  rcases h3 with ⟨h3,h4⟩|⟨h3,h4,rfl⟩
  ·rcases kind5 h1 h3 hx with ⟨_,rfl⟩|⟨h5,_⟩
   ·rcases kind5 h2 h4 hy with ⟨rfl,rfl⟩|⟨rfl,f,a,rfl⟩ <;> simp[Op.equalIn,hu']
   ·cases h5
  ·rcases kind5 h1 h3 hx with ⟨h5,_⟩|⟨_,f,a,rfl⟩
   ·cases h5
   ·rcases kind5 h2 h4 hy with ⟨_,rfl⟩|⟨h6,_⟩
    ·simp[Op.equalIn,hu']
    ·cases h6
end ops
end Go.Ev
namespace Go.Ev
section ops
variable {P:Program} {rs:Rs} {o:Oper} {R:Fr}
theorem optK_true{x:Option Bool}{k:Bool→Bool}(h:optK x k=true): ∃b,x=some b∧k b=true:=by
 unfold optK at h
 split at h
 ·exact ⟨_,rfl,h⟩
 ·cases h
def eqOp(neg:Bool):BinOp:=if neg then .neq else .eql
def other:Value→Bool
 | .int .. | .string _| .float .. | .complex .. => false
 |_=>true
theorem run_eqOp{t:TypeId}{x y:Value}{b:Bool}(neg:Bool)(h1:other x=true){w:World}(h:(Op.equal t x y).run P w= .ok b w):
 (binOp (eqOp neg) t x y).run P w= .ok (.bool (bc neg (bnot b) b)) w:=by
 cases neg <;> cases x <;> first|(cases h1;done)|(cases y <;> simp[eqOp,binOp,h,bc_eq,bnot_eq])
theorem shows_eq{t u:TypeId}{x y:Operand}(neg:Bool)(ho:o.op= .binOp (eqOp neg) t x y u){v:AV}{b:Bool}(hv:v= .bool (bc neg (bnot b) b))
 (h: ∀(σ:Sg) (a:Act),OdR σ rs R o a→ ∀w,other (a.eval x)=true∧(eqGuard (eqOp neg) t x y (a.eval x) (a.eval y)).run P w= .ok () w∧(Op.equal t (a.eval x) (a.eval y)).run P w= .ok b w):PSpec P rs o R v:=by
 subst hv
 refine ⟨(by intro c hc;rw[ho] at hc;cases hc),fun σ a hr=>⟨_,rfl,fun w=>?_⟩⟩
 obtain ⟨h1,h2,h3⟩:=h σ a hr w
 simp only[execOp,ho,Sem.run_bind,h2,Result.andThen_ok,run_eqOp neg h1 h3]
 rfl
theorem edEqs_cons(f:Nat × ED)(r:List (Nat × ED))(xs ys:List AV):edEqs (f::r) xs ys=match lgetO xs f.1,lgetO ys f.1 with
 |some a,some b=>match edEq f.2 a b with|some true=>edEqs r xs ys|some false=>some false|none=>none
 |_,_=>none:=rfl
theorem edEqs_append(xs ys:List AV): ∀(a b:List (Nat × ED)),edEqs (a++b) xs ys=match edEqs a xs ys with|some true=>edEqs b xs ys|some false=>some false|none=>none
 |[],b=>rfl
 |f::a,b=>by
  rw[List.cons_append,edEqs_cons,edEqs_cons]
  cases h1:lgetO xs f.1 with
  |none=>rfl
  |some p=>cases h2:lgetO ys f.1 with
   |none=>rfl
   |some q=>
    simp only
    cases h3:edEq f.2 p q with
    |none=>rfl
    |some c=>cases c with
     |true=>simp only;exact edEqs_append xs ys a b
     |false=>rfl
def Win(vs:List Value)(off lim:Nat)(arr:Array Value):Prop:= ∀i,i<lim→arr[i]? =vs[off+i]?
theorem Win.sub{vs:List Value}{off lim o n:Nat}{arr:Array Value}(h:Win vs off lim arr)(hle:o+n≤lim):Win vs (off+o) n (arr.extract o (o+n)):=fun i hi=>by
 rw[Array.getElem?_extract]
 by_cases hlt:i<min (o+n) arr.size-o
 ·rw[if_pos hlt,h (o+i) (by omega),Nat.add_assoc]
 ·rw[if_neg hlt]
  have h1:arr.size≤o+i:=by omega
  have h2:arr[o+i]? =none:=Array.getElem?_eq_none h1
  rw[h (o+i) (by omega)] at h2
  rw[Nat.add_assoc,h2]
theorem fieldsL_run{σ:Sg}{xs ys:List AV}{vx vy:List Value}(hx:concL σ xs=some vx)(hy:concL σ ys=some vy)(w:World){sub:Nat→Nat→List Field→Option (List (Nat × ED))}{m:Nat}
 (hsub: ∀(fs:List Field) (off lim:Nat) (ds:List (Nat × ED)) (b:Bool) (ax ay:Array Value),sub off lim fs=some ds→Win vx off lim ax→Win vy off lim ay→edEqs ds xs ys=some b→(Op.eqFields m ax ay fs).run P w= .ok b w):
 ∀(fs:List Field) (off lim:Nat) (ds:List (Nat × ED)) (b:Bool) (ax ay:Array Value),leavesL P sub off lim fs=some ds→Win vx off lim ax→Win vy off lim ay→edEqs ds xs ys=some b→(Op.eqFields (m+1) ax ay fs).run P w= .ok b w:=by
 intro fs
 induction fs with
 |nil=>intro off lim ds b ax ay h wx wy k;simp[leavesL] at h;subst h;simp[edEqs] at k;subst k;rfl
 |cons f fs ih=>
  intro off lim ds b ax ay h wx wy k
  simp only[leavesL] at h
  cases hl:leavesL P sub off lim fs with
  |none=>simp[hl] at h
  |some l=>
   simp only[hl,bc_eq] at h
   split at h
   ·rename_i hn
    obtain rfl:=Option.some.inj h
    have hn':f.name= "_" := by simpa using hn
    simp only[Op.eqFields,hn']
    simpa using ih off lim l b ax ay hl wx wy k
   ·rename_i hn
    have hn':f.name≠ "_" := by simpa using hn
    unfold leafN at h
    split at h
    ·
     rename_i fs' n hu hsz
     rw[bc_eq,bc_eq] at h
     split at h
     ·cases h
     ·rename_i hst
      split at h
      ·rename_i hle
       split at h
       ·rename_i l' hl'
        obtain rfl:=Option.some.inj h
        rw[lapp_eq,edEqs_append] at k
        have hle':f.offset+n≤lim:=ble_iff.1 hle
        have hag:aggO P f.type=some (true,n):=by
         obtain ⟨i,h1,h2⟩: ∃i,tinfo P f.type=some i∧i.size=n:=by
          unfold szO at hsz
          cases hi:tinfo P f.type with
          |none=>rw[hi] at hsz;cases hsz
          |some i=>rw[hi] at hsz;exact ⟨i,rfl,by simpa using hsz⟩
         simp[aggO,hu,h1,h2]
        have hf:P.fieldsOf f.type=fs':=by simp[Program.fieldsOf,tund_some hu]
        have hp:(part f.type ax f.offset).run P w= .ok (.agg (ax.extract f.offset (f.offset+n))) w:=run_partN hag ax f.offset w
        have hq:(part f.type ay f.offset).run P w= .ok (.agg (ay.extract f.offset (f.offset+n))) w:=run_partN hag ay f.offset w
        cases hd:edEqs l' xs ys with
        |none=>simp[hd] at k
        |some c=>
         have hr:(Op.equalIn (m+1) f.type (.agg (ax.extract f.offset (f.offset+n))) (.agg (ay.extract f.offset (f.offset+n)))).run P w= .ok c w:=by
          rw[run_equalIn_struct w m f.type _ _ (by rw[hf];exact tund_some hu) (by simpa using hst),hf]
          exact hsub fs'.toList (off+f.offset) n l' c _ _ hl' (wx.sub hle') (wy.sub hle') hd
         cases c with
         |true=>
          simp only[hd] at k
          simp only[Op.eqFields,hn',ne_eq,not_false_eq_true,if_true,Sem.run_bind,hp,hq,hr,Result.andThen_ok]
          simpa using ih off lim l b ax ay hl wx wy k
         |false=>
          simp[hd] at k;subst k
          simp[Op.eqFields,hn',hp,hq,hr]
       ·cases h
      ·cases h
    ·
     rename_i d n hns hu hsz
     split at h
     ·rename_i e he
      rw[bc_eq] at h
      split at h
      ·rename_i hlt
       obtain rfl:=Option.some.inj h
       have hlt':f.offset<lim:=blt_iff.1 hlt
       simp only[edEqs,lgetO_eq] at k
       cases h1:xs[Nat.add off f.offset]? with
       |none=>rw[h1] at k;simp at k
       |some p=>cases h2:ys[Nat.add off f.offset]? with
        |none=>rw[h1,h2] at k;simp at k
        |some q=>
         simp only[h1,h2] at k
         obtain ⟨vp,hp1,hp2⟩:=concL_get _ hx p h1
         obtain ⟨vq,hq1,hq2⟩:=concL_get _ hy q h2
         have hag:(isAgg f.type).run P w= .ok false w:=by
          have hu':=run_und hu w
          cases d <;> first|(cases he;done)|simp[isAgg,hu']
         have hp:(part f.type ax f.offset).run P w= .ok vp w:=by
          have:ax[f.offset]? =some vp:=(wx f.offset hlt').trans hp1
          simp[part,hag,this]
         have hq:(part f.type ay f.offset).run P w= .ok vq w:=by
          have:ay[f.offset]? =some vq:=(wy f.offset hlt').trans hq1
          simp[part,hag,this]
         cases hd:edEq e p q with
         |none=>simp[hd] at k
         |some c=>
          have hr:=leaf_run hu (.inl he) hd hp2 hq2 m w
          cases c with
          |true=>
           simp only[hd] at k
           simp only[Op.eqFields,hn',ne_eq,not_false_eq_true,if_true,Sem.run_bind,hp,hq,hr,Result.andThen_ok]
           simpa using ih off lim l b ax ay hl wx wy k
          |false=>
           simp[hd] at k;subst k
           simp[Op.eqFields,hn',hp,hq,hr]
      ·cases h
     ·cases h
    ·cases h
theorem fields_run{σ:Sg}{xs ys:List AV}{vx vy:List Value}(hx:concL σ xs=some vx)(hy:concL σ ys=some vy)(w:World): ∀(d m:Nat) (fs:List Field) (off lim:Nat) (ds:List (Nat × ED)) (b:Bool) (ax ay:Array Value),
 leavesF P d off lim fs=some ds→Win vx off lim ax→Win vy off lim ay→edEqs ds xs ys=some b→(Op.eqFields (m+d+1) ax ay fs).run P w= .ok b w
 |0,m,fs,off,lim,ds,b,ax,ay,h,wx,wy,k=>fieldsL_run hx hy w (fun fs off lim ds b ax ay h=>by cases h) fs off lim ds b ax ay h wx wy k
 |d+1,m,fs,off,lim,ds,b,ax,ay,h,wx,wy,k=>fieldsL_run hx hy w (fun fs off lim ds b ax ay h wx wy k=>fields_run hx hy w d m fs off lim ds b ax ay h wx wy k) fs off lim ds b ax ay h wx wy k
theorem leaves_run{t:TypeId}{fs:Array Field}{ds:List (Nat × ED)}(hd:leavesOf P t fs.toList=some ds){σ:Sg}{xs ys:List AV}{vx vy:List Value}(hx:concL σ xs=some vx)(hy:concL σ ys=some vy){b:Bool}(k:edEqs ds xs ys=some b)(n:Nat)(w:World):
 (Op.eqFields (n+6) vx.toArray vy.toArray fs.toList).run P w= .ok b w:=by
 unfold leavesOf at hd
 split at hd
 ·rename_i m hm
  exact fields_run hx hy w 5 n fs.toList 0 m ds b _ _ hd (fun i _=>by simp) (fun i _=>by simp) k
 ·cases hd
theorem isNil_other{σ:Sg}{x:AV}{v:Value}{c:Bool}(hn:isNil x=some c)(hc:conc σ x=some v):other v=true∧(∀l,v≠ .agg l)∧(v= .nilIface→kindAV x=5):=by
 have hk:kindAV x=1∨kindAV x=2∨kindAV x=3∨kindAV x=4∨kindAV x=5:=by
  cases x <;> first|(cases hn;done)|simp[kindAV]
 rcases hk with h|h|h|h|h
 ·obtain ⟨p,rfl,_⟩:=kind1 h hn hc;exact ⟨rfl,(by intro l e;cases e),(by intro e;cases e)⟩
 ·obtain ⟨p,_,_,rfl,_⟩:=kind2 h hn hc;exact ⟨rfl,(by intro l e;cases e),(by intro e;cases e)⟩
 ·obtain ⟨p,rfl,_⟩:=kind3 h hn hc;exact ⟨rfl,(by intro l e;cases e),(by intro e;cases e)⟩
 ·rcases kind4 h hn hc with ⟨_,rfl⟩|⟨_,_,_,_,rfl⟩ <;> exact ⟨rfl,(by intro l e;cases e),(by intro e;cases e)⟩
 ·rcases kind5 h hn hc with ⟨_,rfl⟩|⟨_,_,_,rfl⟩ <;> exact ⟨rfl,(by intro l e;cases e),fun _=>h⟩
theorem guard_const{op:BinOp}{t:TypeId}{x y:Operand}{w:World}(h:(isConst x||isConst y)=true):(eqGuard op t x y .nilIface .nilIface).run P w= .ok () w:=by
 cases op <;> cases x <;> cases y <;> first|(simp[isConst] at h;done)|simp[eqGuard]
theorem guard_other{op:BinOp}{t:TypeId}{x y:Operand}{a b:Value}{w:World}(h: ∀l,a≠ .agg l)(h2: ¬(a= .nilIface∧b= .nilIface)):(eqGuard op t x y a b).run P w= .ok () w:=by
 cases a <;> first|exact absurd rfl (h _)|skip
 all_goals cases b <;> first|exact absurd ⟨rfl,rfl⟩ h2|(unfold eqGuard;cases op <;> rfl)
theorem sEqBin{t u:TypeId}{x y:Operand}{d e:Od}(neg:Bool)(ho:o.op= .binOp (eqOp neg) t x y u)(hd:rs x=some d)(he:rs y=some e):PShows P rs o (eqBin P t neg x y d e):=fun F R H k hk=>by
 have hxm:x∈o.op.operands:=by rw[ho];simp[Op.operands]
 have hym:y∈o.op.operands:=by rw[ho];simp[Op.operands]
 have hmax:Op.maxDepth=9999+1:=rfl
 have leaf: ∀(ed:ED) (td:TypeDesc),tund P t=some td→(leafOf P td=some ed∨(∃ms,td= .interface ms∧ed= .nilable 5))→((∃n,ed= .nilable n)∨ed= .ptr)→(ed= .nilable 5→(isConst x||isConst y)=true)→
  (xEq ed neg d e).run F R H k=true→ ∃v,k v H=true∧PSpec P rs o R v:=fun ed td hu hl hnp hcst hk=>by
  obtain ⟨b,h1,hk2⟩:=optK_true hk
  refine ⟨_,hk2,shows_eq (b:=b) neg ho rfl fun σ a hr w=>?_⟩
  have e1:=hr x hxm d hd
  have e2:=hr y hym e he
  have run:=leaf_run hu hl h1 e1 e2 9999 w
  have hnil:(∃c,isNil (evd R d)=some c)∧(∃c,isNil (evd R e)=some c)∧(kindAV (evd R d)=5→ed= .nilable 5):=by
   rcases hnp with ⟨n,rfl⟩|rfl
   ·obtain ⟨k1,k2,k3⟩:=nilEqK_some (n:=n) h1
    refine ⟨?_,?_,fun h=>by rw[←k1,h]⟩ <;> rcases k3 with ⟨k3,k4⟩|⟨k3,k4,_⟩ <;> first|exact ⟨_,k3⟩|exact ⟨_,k4⟩
   ·rcases edEq_ptr h1 with ⟨c,i,j,k1,k2,_⟩|hn
    ·rw[k1,k2];exact ⟨⟨false,rfl⟩,⟨false,rfl⟩,fun h=>by cases h⟩
    ·obtain ⟨k1,k2,k3⟩:=nilEqK_some hn
     refine ⟨?_,?_,fun h=>by rw[k1] at h;cases h⟩ <;> rcases k3 with ⟨k3,k4⟩|⟨k3,k4,_⟩ <;> first|exact ⟨_,k3⟩|exact ⟨_,k4⟩
  obtain ⟨⟨c1,n1⟩,⟨c2,n2⟩,n3⟩:=hnil
  obtain ⟨o1,o2,o3⟩:=isNil_other n1 e1
  refine ⟨o1,?_,run⟩
  by_cases hni:a.eval x= .nilIface∧a.eval y= .nilIface
  ·have hc:=hcst (n3 (o3 hni.1))
   rw[hni.1,hni.2]
   exact guard_const hc
  ·exact guard_other o2 hni
 unfold eqBin at hk
 split at hk
 ·rename_i hu
  obtain ⟨p,h1,hk1⟩:=asBool_true hk
  obtain ⟨q,h2,hk2⟩:=asBool_true hk1
  refine ⟨_,hk2,shows_eq (b:=p==q) neg ho ?_ fun σ a hr w=>?_⟩
  ·cases neg <;> cases p <;> cases q <;> rfl
  ·rw[one_bool hr hxm hd h1,one_bool hr hym he h2]
   refine ⟨rfl,?_,?_⟩
   ·cases neg <;> rfl
   ·unfold Op.equal
    rw[hmax]
    exact run_equalIn_bool' w 9999 t p q (tund_some hu)
 ·rename_i fs hu
  rw[bc_eq] at hk
  split at hk
  ·exact (vfail_run hk).elim
  ·rename_i hg
   split at hk
   ·rename_i ds hds
    obtain ⟨xs,h1,hk1⟩:=asAgg_true hk
    obtain ⟨ys,h2,hk2⟩:=asAgg_true hk1
    obtain ⟨b,h3,hk3⟩:=optK_true hk2
    refine ⟨_,hk3,shows_eq (b:=b) neg ho rfl fun σ a hr w=>?_⟩
    obtain ⟨vx,e1,e2⟩:=one_agg hr hxm hd h1
    obtain ⟨vy,e3,e4⟩:=one_agg hr hym he h2
    rw[e2,e4]
    simp at hg
    have hf:P.fieldsOf t=fs:=by simp[Program.fieldsOf,tund_some hu]
    refine ⟨rfl,run_eqGuard_agg w _ t x y _ _ hg.1,?_⟩
    unfold Op.equal
    rw[hmax,run_equalIn_struct w 9999 t _ _ (by rw[hf];exact tund_some hu) hg.2,hf]
    exact leaves_run hds e1 e3 h3 9993 w
   ·exact (vfail_run hk).elim
 ·rename_i ms hu
  rw[bc_eq] at hk
  split at hk
  ·rename_i hc
   exact leaf (.nilable 5) _ hu (.inr ⟨ms,rfl,rfl⟩) (.inl ⟨_,rfl⟩) (fun _=>hc) hk
  ·exact (vfail_run hk).elim
 ·rename_i el hu
  split at hk
  ·exact (vfail_run hk).elim
  ·rename_i s hs0 hs
   exact leaf .ptr _ hu (.inl (by cases s with|zero=>exact absurd rfl hs0|succ s=>simp[leafOf,hs])) (.inr rfl) (by intro h;cases h) hk
  ·exact (vfail_run hk).elim
 ·rename_i el hu;exact leaf (.nilable 2) _ hu (.inl rfl) (.inl ⟨_,rfl⟩) (by intro h;cases h) hk
 ·rename_i kt el hu;exact leaf (.nilable 3) _ hu (.inl rfl) (.inl ⟨_,rfl⟩) (by intro h;cases h) hk
 ·rename_i p q r hu;exact leaf (.nilable 4) _ hu (.inl rfl) (.inl ⟨_,rfl⟩) (by intro h;cases h) hk
 ·exact (vfail_run hk).elim
theorem sBin{op:BinOp}{t u:TypeId}{x y:Operand}(ho:o.op= .binOp op t x y u):PShows P rs o (pBin P rs op t x y u):=fun F R H k hk0=>by
 obtain ⟨d,e,hd,he,hk⟩:=od2_true hk0
 clear hk0
 split at hk
 ·exact sIntBin ho hd he F R H k hk
 ·exact sStrBin ho hd he F R H k hk
 ·split at hk
  ·exact sEqBin false ho hd he F R H k hk
  ·exact sEqBin true ho hd he F R H k hk
  ·exact (vfail_run hk).elim
end ops
end Go.Ev
namespace Go.Ev
section ops
variable {P:Program} {rs:Rs} {o:Oper} {R:Fr}
def RShows(P:Program)(rs:Rs)(o:Oper)(V:VB):Prop:= ∀(F:Fs) (R:Fr) (H:Hp) (k:KV),V.run F R H k=true→
 ∃x v,readAt rs o=some x∧k v H=true∧RSpec P rs o R H (blkOf (evd R x)) v∧ ∀b,blkOf (evd R x)=some b→hget H b≠ .free
theorem RShows.fail:RShows P rs o vfail:=fun _ _ _ _ h=>(vfail_run h).elim
variable {pr:Nat→Prop} {w0 w:World} {σ:Sg} {H:Hp}
theorem Sees.cells{b:Nat}{e:En}(h:Sees σ H w b)(he:σ b=some e){el:Nat}{sp:Bool}{c:Cs}(hb:hget H b= .cells el sp c): ∃arr fz,CellsR σ w e el sp c arr fz:=by
 have:=h e he
 rw[hb] at this
 exact this
theorem Sim.cells(h:Sim pr w0 σ H w){b:Nat}{e:En}(he:σ b=some e){el:Nat}{sp:Bool}{c:Cs}(hb:hget H b= .cells el sp c): ∃arr fz,CellsR σ w e el sp c arr fz:=
 Sees.cells (h.dom b) he hb
theorem CellsR.read{e:En}{el:Nat}{sp:Bool}{c:Cs}{arr:Array Value}{fz:Nat × Nat}(h:CellsR σ w e el sp c arr fz){i:Nat}(hi:i<c.n): ∃x,w.cell? ⟨e.blk,e.base+i,none⟩=some x∧conc σ (cget c.t i)=some x:=by
 obtain ⟨x,h1,h2⟩:=h.cell i hi
 refine ⟨x,?_,h2⟩
 simp[World.cell?,h.at_,h1]
theorem CellsR.reads{e:En}{el:Nat}{sp:Bool}{c:Cs}{arr:Array Value}{fz:Nat × Nat}(h:CellsR σ w e el sp c arr fz){off n:Nat}(hi:off+n≤c.n):
 ∃xs:List Value,concL σ ((List.range n).map fun i=>cget c.t (off+i))=some xs∧xs.length=n∧ ∀j v,xs[j]? =some v→w.cell? ((⟨e.blk,e.base+off,none⟩:Addr).add j)=some v:=by
 have hsz:e.base+off+n≤arr.size:=by have:=h.le;have:=h.room;omega
 have hlen:((arr.toList.drop (e.base+off)).take n).length=n:=by simp;omega
 have hget: ∀j,j<n→((arr.toList.drop (e.base+off)).take n)[j]? =arr[e.base+(off+j)]? :=fun j hj=>by
  rw[List.getElem?_take,if_pos hj,List.getElem?_drop,Array.getElem?_toList,Nat.add_assoc]
 refine ⟨(arr.toList.drop (e.base+off)).take n,concL_of_get (by simp;omega) fun i v hv=>?_,hlen,fun j v hv=>?_⟩
 ·have hi':i<n:=by
   have:=(List.getElem?_eq_some_iff.1 hv).1
   simpa using this
  obtain ⟨x,h1,h2⟩:=h.cell (off+i) (by omega)
  refine ⟨x,by rw[hget i hi',h1],?_⟩
  have:v=cget c.t (off+i):=by
   have:=hv
   simp[hi'] at this
   exact this.symm
  rw[this];exact h2
 ·have hj:j<n:=by
   have:=(List.getElem?_eq_some_iff.1 hv).1
   omega
  obtain ⟨x,h1,h2⟩:=h.read (i:=off+j) (by omega)
  obtain ⟨y,h3,_⟩:=h.cell (off+j) (by omega)
  rw[hget j hj,h3] at hv
  obtain rfl:=Option.some.inj hv
  simp[World.cell?,h.at_,addr_add,h3]
theorem sLoad{t:TypeId}{x:Operand}(ho:o.op= .load t x):RShows P rs o (pLoad P rs t x):=fun F R H k hk=>by
 have hx:x∈o.op.operands:=by rw[ho];simp[Op.operands]
 unfold pLoad at hk
 split at hk
 ·rename_i n hag
  obtain ⟨d,hd,hk1⟩:=od1_true hk
  obtain ⟨b,off,h1,hk2⟩:=asPtr_true hk1
  obtain ⟨el,sp,c,h2,hk3⟩:=hcells_true hk2
  obtain ⟨h3,hk4⟩:=clist_true hk3
  have hbk:blkOf (evd R d)=some b:=by rw[h1];rfl
  refine ⟨d,_,by simpa[readAt,ho] using hd,hk4,⟨(by intro c hc;rw[ho] at hc;cases hc),fun σ a w hr hs=>?_⟩,fun b' hb'=>by rw[hbk] at hb';cases hb';rw[h2];simp⟩
  obtain ⟨e,e1,e2⟩:=one_ptr hr hx hd h1
  obtain ⟨arr,fz,hc⟩:=(hs b hbk).cells e1 h2
  obtain ⟨xs,x1,x2,x3⟩:=hc.reads h3
  refine ⟨.agg xs.toArray,by simp[conc,x1],?_⟩
  have run:=run_loadCells_list (P:=P) w ⟨e.blk,e.base+off,none⟩ xs x3
  rw[x2] at run
  simp only[execOp,ho,Instr.loadAt,Sem.run_bind,e2,Instr.sureAddr,Sem.run_pure,Result.andThen_ok,loadVar,(aggO_some hag w).1,(aggO_some hag w).2,if_true,run]
 ·rename_i n hag
  obtain ⟨d,hd,hk1⟩:=od1_true hk
  obtain ⟨b,off,h1,hk2⟩:=asPtr_true hk1
  obtain ⟨el,sp,c,h2,hk3⟩:=hcells_true hk2
  obtain ⟨h3,hk4⟩:=chk_iff.1 hk3
  have hbk:blkOf (evd R d)=some b:=by rw[h1];rfl
  refine ⟨d,_,by simpa[readAt,ho] using hd,hk4,⟨(by intro c hc;rw[ho] at hc;cases hc),fun σ a w hr hs=>?_⟩,fun b' hb'=>by rw[hbk] at hb';cases hb';rw[h2];simp⟩
  obtain ⟨e,e1,e2⟩:=one_ptr hr hx hd h1
  obtain ⟨arr,fz,hc⟩:=(hs b hbk).cells e1 h2
  obtain ⟨v,x1,x2⟩:=hc.read (blt_iff.1 h3)
  refine ⟨v,x2,?_⟩
  simp only[execOp,ho,Instr.loadAt,Sem.run_bind,e2,Instr.sureAddr,Sem.run_pure,Result.andThen_ok,loadVar,(aggO_some hag w).1]
  simp[x1]
 ·exact (vfail_run hk).elim
end ops
end Go.Ev
namespace Go.Ev
section ops
variable {P:Program} {rs:Rs} {o:Oper} {R:Fr}
theorem packS_true: ∀ {l:List AV} {k:Nat→Bool},packS l k=true→ ∃bs:List UInt8,k (packB bs)=true∧ ∀σ:Sg,concL σ l=some (bs.map fun b=>Value.int .u8 b.toNat)
 |[],k,h=>⟨[],h,fun _=>rfl⟩
 |v::l,k,h=>by
  have h':asInt v (packOne (packS l) k)=true:=h
  obtain ⟨j,n,rfl,h1⟩:=asInt_true h'
  obtain ⟨h2,h3⟩:=chk_iff.1 h1
  obtain rfl:=sameK_iff.1 h2
  obtain ⟨m,rfl,h4⟩:=natK_true h3
  obtain ⟨h5,h6⟩:=chk_iff.1 h4
  have hm:m≤255:=ble_iff.1 h5
  obtain ⟨bs,h7,h8⟩:=packS_true h6
  refine ⟨UInt8.ofNat m::bs,?_,fun σ=>?_⟩
  ·have:(UInt8.ofNat m).toNat=m:=by simp;omega
   simp only[packB,this];exact (lit_eq _ _).symm.trans h7
  ·refine concL_cons.2 ⟨_,_,rfl,?_,h8 σ⟩
   have:(UInt8.ofNat m).toNat=m:=by simp;omega
   simp[conc,this]
theorem packB_append: ∀(a b:List UInt8),packB (a++b)=packB a+256 ^ a.length*packB b
 |[],b=>by simp[packB]
 |x::a,b=>by
  rw[List.cons_append,packB,packB_append a b,packB,List.length_cons,Nat.pow_succ,Nat.mul_add,Nat.mul_comm (256 ^ a.length) 256,Nat.mul_assoc,Nat.add_assoc]
theorem concL_app{σ:Sg}: ∀ {l r:List AV} {a b:List Value},concL σ l=some a→concL σ r=some b→concL σ (l++r)=some (a++b)
 |[],r,a,b,h,h2=>by cases h;exact h2
 |x::l,r,a,b,h,h2=>by
  obtain ⟨v,vs,rfl,h3,h4⟩:=concL_cons.1 h
  exact concL_cons.2 ⟨v,vs++b,rfl,h3,concL_app h4 h2⟩
theorem packC_true(c:Nat): ∀(m:Nat) {l:List AV} {k:Nat→Bool},packC c m l k=true→ ∃bs:List UInt8,k (packB bs)=true∧ ∀σ:Sg,concL σ l=some (bs.map fun b=>Value.int .u8 b.toNat)
 |0,l,k,h=>packS_true h
 |m+1,l,k,h=>by
  obtain ⟨as,h1,h2⟩:=packS_true (show packS (ltake l c) (packC1 c k (packC c m (ldrop l c)))=true from h)
  obtain ⟨bs,h3,h4⟩:=packC_true c m (show packC c m (ldrop l c) (fun r=>lit (Nat.add (packB as) (Nat.mul (p256 c) r)) k)=true from h1)
  rw[lit_eq,p256_eq] at h3
  have h5: ∀σ:Sg,concL σ l=some ((as++bs).map fun b=>Value.int .u8 b.toNat):=fun σ=>by
   have:=concL_app (h2 σ) (h4 σ)
   rw[ltake_eq,ldrop_eq,List.take_append_drop] at this
   rw[this,List.map_append]
  refine ⟨as++bs,?_,h5⟩
  rw[packB_append]
  have ha:(l.take c).length=as.length:=by
   have:=concL_length (h2 fun _=>none)
   rw[ltake_eq] at this
   simpa using this.symm
  have hb:(l.drop c).length=bs.length:=by
   have:=concL_length (h4 fun _=>none)
   rw[ldrop_eq] at this
   simpa using this.symm
  by_cases hl:c≤l.length
  ·rw[List.length_take,Nat.min_eq_left hl] at ha
   rw[←ha];exact h3
  ·rw[List.length_drop] at hb
   obtain rfl:bs=[]:=List.length_eq_zero_iff.1 (by omega)
   have e1:packB []=0:=rfl
   rw[e1] at h3 ⊢
   exact h3
theorem packL_true{l:List AV}{k:Nat→Bool}(h:packL l k=true): ∃bs:List UInt8,k (packB bs)=true∧ ∀σ:Sg,concL σ l=some (bs.map fun b=>Value.int .u8 b.toNat):=packC_true 256 _ h
theorem push_fold: ∀(bs:List UInt8) (l:List UInt8),(bs.map fun b=>(b.toNat:Int)).foldl (fun (r:ByteArray) n=>r.push (UInt8.ofNat n.toNat)) (bts l)=bts (l++bs)
 |[],l=>by simp
 |b::bs,l=>by
  have:(bts l).push b=bts (l++[b]):=by
   apply ByteArray.ext;simp[bts,ByteArray.push]
  simp only[List.map_cons,List.foldl_cons,Int.toNat_natCast,UInt8.ofNat_toNat,this,push_fold bs (l++[b])]
  simp
theorem packR_true: ∀ {l:List AV} {k:Nat→Bool},packR l k=true→ ∃bs:List UInt8,k (packB bs)=true∧(∀b∈bs,b.toNat<128)∧ ∀σ:Sg,concL σ l=some (bs.map fun b=>Value.int .i32 b.toNat)
 |[],k,h=>⟨[],h,fun _ h=>(by cases h),fun _=>rfl⟩
 |v::l,k,h=>by
  have h':asInt v (packOneR (packR l) k)=true:=h
  obtain ⟨j,n,rfl,h1⟩:=asInt_true h'
  obtain ⟨h2,h3⟩:=chk_iff.1 h1
  obtain rfl:=sameK_iff.1 h2
  obtain ⟨m,rfl,h4⟩:=natK_true h3
  obtain ⟨h5,h6⟩:=chk_iff.1 h4
  have hm:m≤127:=ble_iff.1 h5
  obtain ⟨bs,h7,h7',h8⟩:=packR_true h6
  have e:(UInt8.ofNat m).toNat=m:=by simp;omega
  refine ⟨UInt8.ofNat m::bs,?_,fun b hb=>?_,fun σ=>?_⟩
  ·simp only[packB,e];exact (lit_eq _ _).symm.trans h7
  ·rcases List.mem_cons.1 hb with rfl|hb
   ·omega
   ·exact h7' b hb
  ·refine concL_cons.2 ⟨_,_,rfl,?_,h8 σ⟩
   simp[conc,e]
theorem encode_ascii(b:UInt8)(h:b.toNat<128):Utf8.encode (b.toNat:Int)=⟨#[b]⟩:=by
 have hv:Utf8.valid ((b.toNat:Nat):Int)=true:=by simp[Utf8.valid];omega
 simp[Utf8.encode,hv,h]
theorem enc_fold: ∀(bs:List UInt8) (_: ∀b∈bs,b.toNat<128) (l:List UInt8),(bs.map fun b=>(b.toNat:Int)).foldl (fun (r:ByteArray) n=>r++Utf8.encode n) (bts l)=bts (l++bs)
 |[],_,l=>by simp
 |b::bs,h,l=>by
  have e:=encode_ascii b (h b List.mem_cons_self)
  have:bts l++(⟨#[b]⟩:ByteArray)=bts (l++[b]):=by
   apply ByteArray.ext;simp[bts]
  simp only[List.map_cons,List.foldl_cons,e,this,enc_fold bs (fun x hx=>h x (List.mem_cons_of_mem _ hx)) (l++[b])]
  simp
theorem run_forIn_runes(w:World)(f:Value→ByteArray→Sem (ForInStep ByteArray))(hf: ∀(n:Int) (r:ByteArray),(f (Value.int .i32 n) r).run P w= .ok (.yield (r++Utf8.encode n)) w):
 ∀(ns:List Int) (r:ByteArray),(forIn (ns.map (Value.int .i32)) r f).run P w= .ok (ns.foldl (fun r n=>r++Utf8.encode n) r) w
 |[],r=>by simp[Sem.run_pure]
 |n::ns,r=>by
  simp only[List.map_cons,List.forIn_cons,Sem.run_bind,hf,Result.andThen_ok,List.foldl_cons]
  exact run_forIn_runes w f hf ns _
theorem run_runesToString(w:World)(a:Addr)(len cap:Nat)(ns:List Int)(h:(loadCells a len).run P w= .ok (ns.map (Value.int .i32)).toArray w):
 (Conv.runesToString (.slice (some a) len cap)).run P w= .ok (.string (ns.foldl (fun r n=>r++Utf8.encode n) ByteArray.empty)) w:=by
 unfold Conv.runesToString
 simp only[Sem.run_bind,h,Result.andThen,List.forIn_toArray]
 rw[run_forIn_runes w _ (by intro n r;simp[Sem.run_pure])]
 simp[Sem.run_pure]
theorem run_convert_runes_string(w:World)(src dst e:TypeId)(a:Option Addr)(l c:Nat)
 (hs:P.underlying src=some (.slice e)) (he:P.underlying e=some (.int .i32)) (hd:P.underlying dst=some .string):
 (convert src dst (.slice a l c)).run P w=(Conv.runesToString (.slice a l c)).run P w:=by
 simp[convert,run_underlying hs,run_underlying hd,run_underlying he]
theorem sCRS{s t e:TypeId}{x:Operand}{d:Od}(ho:o.op= .convert s t x)(hs:tund P s=some (.slice e))(he:tund P e=some (.int .i32))(ht:tund P t=some .string)(hd:rs x=some d):RShows P rs o (xCRS d):=fun F R H k hk=>by
 have hx:x∈o.op.operands:=by rw[ho];simp[Op.operands]
 have fin: ∀(b off len:Nat),blkOf (evd R d)=some b→hcells H b (cRSc off len H k)=true→(∀(σ:Sg) (a:Act),OdR σ rs R o a→ ∃en,σ b=some en∧ ∃c,a.eval x= .slice (some ⟨en.blk,en.base+off,none⟩) len c)→
  ∃y v,readAt rs o=some y∧k v H=true∧RSpec P rs o R H (blkOf (evd R y)) v∧ ∀b,blkOf (evd R y)=some b→hget H b≠ .free:=fun b off len hbk hk hv=>by
  obtain ⟨el,sp,c,h2,hk3⟩:=hcells_true hk
  obtain ⟨h3,hk4⟩:=clist_true hk3
  obtain ⟨bs,hk5,ha,h5⟩:=packR_true hk4
  refine ⟨d,_,by simpa[readAt,ho] using hd,hk5,⟨(by intro c hc;rw[ho] at hc;cases hc),fun σ a w hr hsim=>?_⟩,fun b' hb'=>by rw[hbk] at hb';cases hb';rw[h2];simp⟩
  obtain ⟨en,e1,cap,e2⟩:=hv σ a hr
  obtain ⟨arr,fz,hc⟩:=(hsim b hbk).cells e1 h2
  obtain ⟨xs,x1,x2,x3⟩:=hc.reads h3
  have hxs:xs=(bs.map fun b=>(b.toNat:Int)).map (Value.int .i32):=by
   have:=(h5 σ).symm.trans x1
   rw[←Option.some.inj this];simp
  have hl:bs.length=len:=by rw[←x2,hxs];simp
  have run:=run_loadCells_list (P:=P) w ⟨en.blk,en.base+off,none⟩ xs x3
  rw[x2,hxs] at run
  have hb:=run_runesToString w ⟨en.blk,en.base+off,none⟩ len cap _ run
  have hp:=enc_fold bs ha []
  refine ⟨.string (bts bs),?_,?_⟩
  ·simp only[conc]
   rw[←hl,packB_unpack];rfl
  ·simp only[execOp,ho,e2,Sem.run_bind]
   rw[run_convert_runes_string w s t e _ _ _ (tund_some hs) (tund_some he) (tund_some ht),hb]
   simp
   exact hp
 rcases asSlc_true hk with ⟨h1,hk2⟩|⟨b,off,len,cap,h1,hk2⟩|⟨b,off,len,z,h1,hk2⟩
 ·refine ⟨d,_,by simpa[readAt,ho] using hd,hk2,⟨(by intro c hc;rw[ho] at hc;cases hc),fun σ a w hr hsim=>⟨.string .empty,rfl,?_⟩⟩,fun b' hb'=>by rw[h1] at hb';cases hb'⟩
  have e1:=hr x hx d hd
  rw[h1] at e1;have e2:=conc_nils e1
  simp[execOp,ho,e2,convert,run_und hs,run_und ht,run_und he,Conv.runesToString]
 ·exact fin b off len (by rw[h1];rfl) hk2 fun σ a hr=>by
   have e1:=hr x hx d hd
   rw[h1] at e1;obtain ⟨en,k1,k2⟩:=conc_sl e1;exact ⟨en,k1,_,k2⟩
 ·exact fin b off len (by rw[h1];rfl) hk2 fun σ a hr=>by
   have e1:=hr x hx d hd
   rw[h1] at e1;obtain ⟨en,k1,_,_,k2⟩:=conc_su e1;exact ⟨en,k1,_,k2⟩
theorem sCBS{s t e:TypeId}{x:Operand}{d:Od}(ho:o.op= .convert s t x)(hs:tund P s=some (.slice e))(he:tund P e=some (.int .u8))(ht:tund P t=some .string)(hd:rs x=some d):RShows P rs o (xCBS d):=fun F R H k hk=>by
 have hx:x∈o.op.operands:=by rw[ho];simp[Op.operands]
 have fin: ∀(b off len:Nat),blkOf (evd R d)=some b→hcells H b (cBSc off len H k)=true→(∀(σ:Sg) (a:Act),OdR σ rs R o a→ ∃en,σ b=some en∧ ∃c,a.eval x= .slice (some ⟨en.blk,en.base+off,none⟩) len c)→
  ∃y v,readAt rs o=some y∧k v H=true∧RSpec P rs o R H (blkOf (evd R y)) v∧ ∀b,blkOf (evd R y)=some b→hget H b≠ .free:=fun b off len hbk hk hv=>by
  obtain ⟨el,sp,c,h2,hk3⟩:=hcells_true hk
  obtain ⟨h3,hk4⟩:=clist_true hk3
  obtain ⟨bs,hk5,h5⟩:=packL_true hk4
  refine ⟨d,_,by simpa[readAt,ho] using hd,hk5,⟨(by intro c hc;rw[ho] at hc;cases hc),fun σ a w hr hsim=>?_⟩,fun b' hb'=>by rw[hbk] at hb';cases hb';rw[h2];simp⟩
  obtain ⟨en,e1,cap,e2⟩:=hv σ a hr
  obtain ⟨arr,fz,hc⟩:=(hsim b hbk).cells e1 h2
  obtain ⟨xs,x1,x2,x3⟩:=hc.reads h3
  have hxs:xs=(bs.map fun b=>(b.toNat:Int)).map (Value.int .u8):=by
   have:=(h5 σ).symm.trans x1
   rw[←Option.some.inj this];simp
  have hl:bs.length=len:=by rw[←x2,hxs];simp
  have run:=run_loadCells_list (P:=P) w ⟨en.blk,en.base+off,none⟩ xs x3
  rw[x2,hxs] at run
  have hb:=run_bytesToString w ⟨en.blk,en.base+off,none⟩ len cap _ run
  have hp:=push_fold bs []
  refine ⟨.string (bts bs),?_,?_⟩
  ·simp only[conc]
   rw[←hl,packB_unpack];rfl
  ·simp only[execOp,ho,e2,Sem.run_bind]
   rw[run_convert_bytes_string w s t e _ _ _ (tund_some hs) (tund_some he) (tund_some ht),hb]
   simp
   exact hp
 rcases asSlc_true hk with ⟨h1,hk2⟩|⟨b,off,len,cap,h1,hk2⟩|⟨b,off,len,z,h1,hk2⟩
 ·refine ⟨d,_,by simpa[readAt,ho] using hd,hk2,⟨(by intro c hc;rw[ho] at hc;cases hc),fun σ a w hr hsim=>⟨.string .empty,rfl,?_⟩⟩,fun b' hb'=>by rw[h1] at hb';cases hb'⟩
  have e1:=hr x hx d hd
  rw[h1] at e1;have e2:=conc_nils e1
  simp[execOp,ho,e2,convert,run_und hs,run_und ht,run_und he,Conv.bytesToString]
 ·exact fin b off len (by rw[h1];rfl) hk2 fun σ a hr=>by
   have e1:=hr x hx d hd
   rw[h1] at e1;obtain ⟨en,k1,k2⟩:=conc_sl e1;exact ⟨en,k1,_,k2⟩
 ·exact fin b off len (by rw[h1];rfl) hk2 fun σ a hr=>by
   have e1:=hr x hx d hd
   rw[h1] at e1;obtain ⟨en,k1,_,_,k2⟩:=conc_su e1;exact ⟨en,k1,_,k2⟩
end ops
end Go.Ev
namespace Go.Ev
section ops
variable {P:Program} {rs:Rs} {o:Oper} {R:Fr}
variable {pr:Nat→Prop} {w0 w:World} {σ:Sg} {H:Hp}
theorem conc_mp{σ:Sg}{b:Nat}{x:Value}(h:conc σ (.mp b)=some x): ∃e,σ b=some e∧x= .map (some e.blk):=by
 simp only[conc] at h
 cases hs:σ b with
 |none=>simp[hs] at h
 |some e=>simp[hs] at h;exact ⟨e,rfl,h.symm⟩
theorem conc_nilm{σ:Sg}{x:Value}(h:conc σ .nilm=some x):x= .map none:=by simp only[conc,Option.some.injEq] at h;exact h.symm
theorem Sees.map{b:Nat}{e:En}(h:Sees σ H w b)(he:σ b=some e){es:List (AV × AV)}(hb:hget H b= .map es∨hget H b= .umap es): ∃l clock,w.heap[e.blk]? =some (.map l clock)∧MapU σ es l.toList clock:=by
 have:=h e he
 rcases hb with hb|hb <;> rw[hb] at this
 ·obtain ⟨l,cl,h1,h2⟩:=this;exact ⟨l,cl,h1,h2.u⟩
 ·exact this
theorem Sim.map(h:Sim pr w0 σ H w){b:Nat}{e:En}(he:σ b=some e){es:List (AV × AV)}(hb:hget H b= .map es): ∃l clock,w.heap[e.blk]? =some (.map l clock)∧MapR σ es l.toList clock:=by
 have:=h.dom b e he
 rwa [hb] at this
theorem EntsR.length: ∀ {es:List (AV × AV)} {l:List MapEntry},EntsR σ es l→es.length=l.length
 |[],[],_=>rfl
 |_::_,[],k=>k.elim
 |[],_::_,k=>k.elim
 |_::_,_::_,k=>by simp[EntsR.length k.2]
theorem EntsR.right: ∀ {es:List (AV × AV)} {l:List MapEntry},EntsR σ es l→ ∀a∈es, ∃e∈l,EntR σ a e
 |[],_,_,a,ha=>by simp at ha
 |_::_,[],k,_,_=>k.elim
 |b::es,e::l,k,a,ha=>by
  rcases List.mem_cons.1 ha with rfl|ha
  ·exact ⟨e,List.mem_cons_self,k.1⟩
  ·obtain ⟨x,h1,h2⟩:=EntsR.right k.2 a ha
   exact ⟨x,List.mem_cons_of_mem _ h1,h2⟩
theorem EntsR.left: ∀ {es:List (AV × AV)} {l:List MapEntry},EntsR σ es l→ ∀e∈l, ∃a∈es,EntR σ a e
 |[],[],_,a,ha=>by simp at ha
 |[],_::_,k,_,_=>k.elim
 |_::_,[],k,_,_=>k.elim
 |b::es,e::l,k,x,hx=>by
  rcases List.mem_cons.1 hx with rfl|hx
  ·exact ⟨b,List.mem_cons_self,k.1⟩
  ·obtain ⟨a,h1,h2⟩:=EntsR.left k.2 x hx
   exact ⟨a,List.mem_cons_of_mem _ h1,h2⟩
theorem MapU.length{es:List (AV × AV)}{l:List MapEntry}{cl:Nat}(h:MapU σ es l cl):es.length=l.length:=by
 obtain ⟨l',h1,h2⟩:=h.perm
 rw[h2.length,h1.length_eq]
theorem MapU.right{es:List (AV × AV)}{l:List MapEntry}{cl:Nat}(h:MapU σ es l cl): ∀a∈es, ∃e∈l,EntR σ a e:=fun a ha=>by
 obtain ⟨l',h1,h2⟩:=h.perm
 obtain ⟨e,h3,h4⟩:=h2.right a ha
 exact ⟨e,h1.mem_iff.2 h3,h4⟩
theorem MapU.left{es:List (AV × AV)}{l:List MapEntry}{cl:Nat}(h:MapU σ es l cl): ∀e∈l, ∃a∈es,EntR σ a e:=fun e he=>by
 obtain ⟨l',h1,h2⟩:=h.perm
 exact h2.left e (h1.mem_iff.1 he)
theorem nodup_inj{α β:Type}{f:α→β}: ∀ {l:List α},(l.map f).Nodup→ ∀a∈l, ∀b∈l,f a=f b→a=b
 |[],_,a,ha,_,_,_=>by simp at ha
 |x::l,h,a,ha,b,hb,hab=>by
  rw[List.map_cons,List.nodup_cons] at h
  rcases List.mem_cons.1 ha with rfl|ha
  ·rcases List.mem_cons.1 hb with rfl|hb
   ·rfl
   ·exact absurd (List.mem_map.2 ⟨b,hb,hab.symm⟩) h.1
  ·rcases List.mem_cons.1 hb with hbx|hb
   ·exact absurd (List.mem_map.2 ⟨a,ha,by rw[hab,hbx]⟩) h.1
   ·exact nodup_inj h.2 a ha b hb hab
theorem plain_key{e:ED}(he:plainED e=true){x y:AV}{b:Bool}(h:edEq e x y=some b){vx vy:Value}(hx:conc σ x=some vx)(hy:conc σ y=some vy):
 (b=true↔vx=vy)∧ ∀n,Instr.sameBits n vx vx=true:=by
 cases e with
 |int=>
  obtain ⟨j,m,n,rfl,rfl,rfl⟩:=edEq_int h
  obtain rfl:=conc_int hx;obtain rfl:=conc_int hy
  exact ⟨by simp,fun n=>by simp[Instr.sameBits]⟩
 |str=>
  obtain ⟨la,na,lb,nb,rfl,rfl,rfl⟩:=edEq_str h
  obtain rfl:=conc_str' hx;obtain rfl:=conc_str' hy
  exact ⟨by simp[bts_inj],fun n=>by simp only[Instr.sameBits];exact (MapKept.bytes_beq _ _).2 rfl⟩
 |bool=>
  obtain ⟨p,q,rfl,rfl,rfl⟩:=edEq_bool h
  obtain rfl:=conc_bool hx;obtain rfl:=conc_bool hy
  exact ⟨by simp,fun n=>by simp[Instr.sameBits]⟩
 |nilable n=>cases he
 |ptr=>cases he
theorem plain_self{e:ED}(he:plainED e=true){x:AV}{b:Bool}(h:edEq e x x=some b):b=true:=by
 cases e with
 |int=>obtain ⟨j,m,n,rfl,h2,rfl⟩:=edEq_int h;cases h2;simp
 |str=>obtain ⟨la,na,lb,nb,rfl,h2,rfl⟩:=edEq_str h;cases h2;simp
 |bool=>obtain ⟨p,q,rfl,h2,rfl⟩:=edEq_bool h;cases h2;simp
 |nilable n=>cases he
 |ptr=>cases he
theorem row_key{xs ys:List AV}{vx vy:List Value}(hx:concL σ xs=some vx)(hy:concL σ ys=some vy): ∀(ds:List (Nat × ED)) (i:Nat) (b:Bool),rowED i ds=true→edEqs ds xs ys=some b→
 (b=true↔ ∀j,i≤j→j<i+ds.length→vx[j]? =vy[j]?)
 |[],i,b,_,h=>by simp[edEqs] at h;subst h;simp;intro j h1 h2;omega
 |e::ds,i,b,hr,h=>by
  simp only[rowED] at hr
  obtain ⟨r1,hr⟩:=chk_iff.1 hr
  obtain ⟨r2,r3⟩:=chk_iff.1 hr
  have r1':e.1=i:=beq_iff.1 r1
  rw[edEqs_cons,lgetO_eq,lgetO_eq,r1'] at h
  cases h1:xs[i]? with
  |none=>simp[h1] at h
  |some p=>cases h2:ys[i]? with
   |none=>simp[h1,h2] at h
   |some q=>
    simp only[h1,h2] at h
    obtain ⟨vp,p1,p2⟩:=concL_get i hx p h1
    obtain ⟨vq,q1,q2⟩:=concL_get i hy q h2
    cases h3:edEq e.2 p q with
    |none=>simp[h3] at h
    |some c=>
     obtain ⟨k1,_⟩:=plain_key r2 h3 p2 q2
     cases c with
     |true=>
      simp only[h3] at h
      have heq:vp=vq:=k1.1 rfl
      subst heq
      have:=row_key hx hy ds (i+1) b r3 h
      rw[this]
      constructor
      ·intro hh j hj1 hj2
       by_cases hji:j=i
       ·subst hji;rw[p1,q1]
       ·exact hh j (by omega) (by simp at hj2;omega)
      ·intro hh j hj1 hj2
       exact hh j (by omega) (by simp;omega)
     |false=>
      simp[h3] at h;subst h
      have hne:vp≠vq:=fun e=>by have:=k1.2 e;cases this
      constructor
      ·intro hh;cases hh
      ·intro hh
       have:=hh i (Nat.le_refl _) (by simp)
       rw[p1,q1] at this
       exact absurd (Option.some.inj this) hne
theorem row_self{xs:List AV}{vx:List Value}(hx:concL σ xs=some vx): ∀(ds:List (Nat × ED)) (i:Nat) (b:Bool),rowED i ds=true→edEqs ds xs xs=some b→ ∀j,i≤j→j<i+ds.length→ ∃v,vx[j]? =some v∧ ∀n,Instr.sameBits n v v=true
 |[],i,b,_,h=>fun j h1 h2=>by simp at h2;omega
 |e::ds,i,b,hr,h=>fun j hj1 hj2=>by
  simp only[rowED] at hr
  obtain ⟨r1,hr⟩:=chk_iff.1 hr
  obtain ⟨r2,r3⟩:=chk_iff.1 hr
  have r1':e.1=i:=beq_iff.1 r1
  rw[edEqs_cons,lgetO_eq,r1'] at h
  cases h1:xs[i]? with
  |none=>simp[h1] at h
  |some p=>
   simp only[h1] at h
   obtain ⟨vp,p1,p2⟩:=concL_get i hx p h1
   cases h3:edEq e.2 p p with
   |none=>simp[h3] at h
   |some c=>
    obtain rfl:=plain_self r2 h3
    simp only[h3] at h
    by_cases hji:j=i
    ·subst hji;exact ⟨vp,p1,(plain_key r2 h3 p2 p2).2⟩
    ·exact row_self hx ds (i+1) b r3 h j (by omega) (by simp at hj2;omega)
theorem leaves_mem{off lim:Nat}: ∀ {fs:List Field} {ds:List (Nat × ED)},leavesL P (fun _ _ _=>none) off lim fs=some ds→ ∀f∈fs,f.name≠ "_" → ∃d e,tund P f.type=some d∧leafOf P d=some e∧f.offset<lim∧(off+f.offset,e)∈ds
 |[],_,_,f,hf,_=>by simp at hf
 |g::fs,ds,h,f,hf,hne=>by
  simp only[leavesL] at h
  cases hl:leavesL P (fun _ _ _=>none) off lim fs with
  |none=>simp[hl] at h
  |some l=>
   simp only[hl,bc_eq] at h
   have old: ∀ {e:ED},(off+f.offset,e)∈l→(off+f.offset,e)∈ds:=fun hm=>by
    split at h
    ·obtain rfl:=Option.some.inj h;exact hm
    ·unfold leafN at h
     split at h
     ·rw[bc_eq,bc_eq] at h
      split at h
      ·cases h
      ·split at h <;> cases h
     ·split at h
      ·rw[bc_eq] at h
       split at h
       ·obtain rfl:=Option.some.inj h;exact List.mem_cons_of_mem _ hm
       ·cases h
      ·cases h
     ·cases h
   rcases List.mem_cons.1 hf with rfl|hf
   ·rw[if_neg (by simpa using hne)] at h
    unfold leafN at h
    split at h
    ·rw[bc_eq,bc_eq] at h
     split at h
     ·cases h
     ·split at h <;> cases h
    ·rename_i d n _ hu _
     split at h
     ·rename_i e he
      rw[bc_eq] at h
      split at h
      ·rename_i hlt
       obtain rfl:=Option.some.inj h
       exact ⟨d,e,hu,he,blt_iff.1 hlt,List.mem_cons_self⟩
      ·cases h
     ·cases h
    ·cases h
   ·obtain ⟨d,e,h1,h2,h3,h4⟩:=leaves_mem hl f hf hne
    exact ⟨d,e,h1,h2,h3,old h4⟩
theorem row_plain: ∀ {ds:List (Nat × ED)} {i:Nat},rowED i ds=true→ ∀x∈ds,plainED x.2=true
 |[],_,_,x,hx=>by simp at hx
 |e::ds,i,h,x,hx=>by
  simp only[rowED] at h
  obtain ⟨_,h⟩:=chk_iff.1 h
  obtain ⟨r2,r3⟩:=chk_iff.1 h
  rcases List.mem_cons.1 hx with rfl|hx
  ·exact r2
  ·exact row_plain r3 x hx
theorem keyED_cases{t:TypeId}{d:KEq}(hd:keyED P t=some d):(∃desc e,tund P t=some desc∧leafOf P desc=some e∧plainED e=true∧d=edEq e)∨
 (∃fs n ds,tund P t=some (.struct fs)∧szO P t=some n∧leavesF P 0 0 n fs.toList=some ds∧P.stoodInHeld t=false∧rowED 0 ds=true∧ds.length=n∧(∀f∈fs.toList,f.name≠ "_")∧d=aggEq n ds):=by
 unfold keyED at hd
 split at hd
 ·rename_i j hu;obtain rfl:=Option.some.inj hd;exact .inl ⟨_, .int,hu,rfl,rfl,rfl⟩
 ·rename_i hu;obtain rfl:=Option.some.inj hd;exact .inl ⟨_, .str,hu,rfl,rfl,rfl⟩
 ·rename_i hu;obtain rfl:=Option.some.inj hd;exact .inl ⟨_, .bool,hu,rfl,rfl,rfl⟩
 ·rename_i fs hu
  unfold keyS at hd
  split at hd
  ·rename_i n hn
   split at hd
   ·rename_i ds hds
    rw[bc_eq,bc_eq] at hd
    split at hd
    ·cases hd
    ·rename_i hst
     split at hd
     ·rename_i hc
      obtain ⟨c1,hc⟩:=chk_iff.1 hc
      obtain ⟨c2,c3⟩:=chk_iff.1 hc
      have c2':=beq_iff.1 c2
      rw[llen_eq] at c2'
      obtain rfl:=Option.some.inj hd
      exact .inr ⟨fs,n,ds,hu,hn,hds,by simpa using hst,c1,c2',fun f hf=>by have:=(lall_iff _ _).1 c3 f hf;simpa using this,rfl⟩
     ·cases hd
   ·cases hd
  ·cases hd
 ·cases hd
theorem aggEq_some{n:Nat}{ds:List (Nat × ED)}{x y:AV}{b:Bool}(h:aggEq n ds x y=some b): ∃xs ys,x= .agg xs∧y= .agg ys∧xs.length=n∧ys.length=n∧edEqs ds xs ys=some b:=by
 unfold aggEq at h
 split at h
 ·rename_i xs ys
  unfold aggEqc at h
  rw[bc_eq] at h
  split at h
  ·rename_i hc
   obtain ⟨c1,c2⟩:=chk_iff.1 hc
   have c1':=beq_iff.1 c1;have c2':=beq_iff.1 c2
   rw[llen_eq] at c1' c2'
   exact ⟨xs,ys,rfl,rfl,c1',c2',h⟩
  ·cases h
 ·cases h
theorem conc_agg{l:List AV}{v:Value}(h:conc σ (.agg l)=some v): ∃xs,concL σ l=some xs∧v= .agg xs.toArray:=by
 simp only[conc] at h
 cases hl:concL σ l with
 |none=>simp[hl] at h
 |some xs=>simp[hl] at h;exact ⟨xs,rfl,h.symm⟩
theorem same_key{t:TypeId}{d:KEq}(hd:keyED P t=some d){x y:AV}{b:Bool}(h:d x y=some b){vx vy:Value}(hx:conc σ x=some vx)(hy:conc σ y=some vy):
 (b=true↔vx=vy)∧((∃desc,tund P t=some desc∧Instr.sameNow desc vx vy=some b)∨((∃fs,tund P t=some (.struct fs))∧ ∀w,(Op.equal t vx vy).run P w= .ok b w)):=by
 rcases keyED_cases hd with ⟨desc,e,hu,hl,hp,rfl⟩|⟨fs,n,ds,hu,hn,hds,hst,hrow,hlen,hnm,rfl⟩
 ·obtain ⟨k1,_⟩:=plain_key hp h hx hy
  refine ⟨k1, .inl ⟨desc,hu,?_⟩⟩
  cases e with
  |int=>
   obtain ⟨j,m,n,rfl,rfl,rfl⟩:=edEq_int h
   obtain rfl:=conc_int hx;obtain rfl:=conc_int hy
   unfold leafOf at hl
   split at hl <;> try cases hl
   ·simp[Instr.sameNow];rfl
   ·split at hl <;> cases hl
  |str=>
   obtain ⟨la,na,lb,nb,rfl,rfl,rfl⟩:=edEq_str h
   obtain rfl:=conc_str' hx;obtain rfl:=conc_str' hy
   unfold leafOf at hl
   split at hl <;> try cases hl
   ·simp only[Instr.sameNow,Option.some.injEq]
    by_cases he:unpack la na=unpack lb nb
    ·rw[he,decide_eq_true rfl];exact (MapKept.bytes_beq _ _).2 rfl
    ·rw[decide_eq_false he]
     cases hb:(bts (unpack la na)==bts (unpack lb nb))
     ·rfl
     ·exact absurd (bts_inj.1 ((MapKept.bytes_beq _ _).1 hb)) he
   ·split at hl <;> cases hl
  |bool=>
   obtain ⟨p,q,rfl,rfl,rfl⟩:=edEq_bool h
   obtain rfl:=conc_bool hx;obtain rfl:=conc_bool hy
   unfold leafOf at hl
   split at hl <;> try cases hl
   ·rfl
   ·split at hl <;> cases hl
  |nilable n=>cases hp
  |ptr=>cases hp
 ·obtain ⟨xs,ys,rfl,rfl,l1,l2,he⟩:=aggEq_some h
  obtain ⟨X,x1,rfl⟩:=conc_agg hx
  obtain ⟨Y,y1,rfl⟩:=conc_agg hy
  have k1:=row_key x1 y1 ds 0 b hrow he
  have lx:=concL_length x1;have ly:=concL_length y1
  refine ⟨?_, .inr ⟨⟨fs,hu⟩,fun w=>?_⟩⟩
  ·rw[k1]
   constructor
   ·intro hh
    have:X=Y:=List.ext_getElem? fun j=>by
     by_cases hj:j<n
     ·exact hh j (Nat.zero_le _) (by omega)
     ·rw[List.getElem?_eq_none (by omega),List.getElem?_eq_none (by omega)]
    rw[this]
   ·intro hh
    have:X=Y:=by simpa using hh
    subst this
    intro j _ _;rfl
  ·have hf:P.fieldsOf t=fs:=by simp[Program.fieldsOf,tund_some hu]
   unfold Op.equal
   rw[show Op.maxDepth=9999+1 from rfl,run_equalIn_struct w 9999 t _ _ (by rw[hf];exact tund_some hu) hst,hf]
   exact fields_run x1 y1 w 0 9998 fs.toList 0 n ds b _ _ hds (fun i _=>by simp) (fun i _=>by simp) he
theorem key_bits{t:TypeId}{d:KEq}(hd:keyED P t=some d){x:AV}{b:Bool}(h:d x x=some b){v:Value}(hx:conc σ x=some v)(n:Nat):Instr.sameBits (n+1) v v=true:=by
 rcases keyED_cases hd with ⟨desc,e,hu,hl,hp,rfl⟩|⟨fs,m,ds,hu,hn,hds,hst,hrow,hlen,hnm,rfl⟩
 ·exact (plain_key hp h hx hx).2 _
 ·obtain ⟨xs,ys,rfl,hy,l1,l2,he⟩:=aggEq_some h
  cases hy
  obtain ⟨X,x1,rfl⟩:=conc_agg hx
  have lx:=concL_length x1
  have k:=row_self x1 ds 0 b hrow he
  simp only[Instr.sameBits,beq_self_eq_true,Bool.true_and,List.all_eq_true]
  intro p hp
  obtain ⟨j,hj⟩:=List.mem_iff_getElem?.1 hp
  rw[List.getElem?_zip_eq_some] at hj
  obtain ⟨j1,j2⟩:=hj
  have hjl:=(List.getElem?_eq_some_iff.1 j1).1
  obtain ⟨v,v1,v2⟩:=k j (Nat.zero_le _) (by omega)
  rw[j1] at v1;obtain rfl:=Option.some.inj v1
  rw[j1] at j2
  have:p.1=p.2:=Option.some.inj j2
  rw[←this];exact v2 n
theorem run_checkKey{t:TypeId}{d:KEq}(hd:keyED P t=some d){x:AV}{b:Bool}(h:d x x=some b){v:Value}(hx:conc σ x=some v)(e:Bool)(n:Nat)(w:World):(Instr.checkKey e (n+2) t v).run P w= .ok () w:=by
 rcases keyED_cases hd with ⟨desc,ed,hu,hl,hp,rfl⟩|⟨fs,m,ds,hu,hn,hds,hst,hrow,hlen,hnm,rfl⟩
 ·cases desc <;> first|(cases hl;done)|simp[Instr.checkKey,run_und hu]
 ·obtain ⟨xs,ys,rfl,hy,l1,l2,he⟩:=aggEq_some h
  obtain ⟨X,x1,rfl⟩:=conc_agg hx
  have lx:=concL_length x1
  have hmem:=leaves_mem (P:=P) (off:=0) (lim:=m) hds
  have step: ∀f∈fs.toList, ∃y,(part f.type X.toArray f.offset).run P w= .ok y w∧(Instr.checkKey e (n+1) f.type y).run P w= .ok () w:=fun f hf=>by
   obtain ⟨fd,fe,q1,q2,q3,q4⟩:=hmem f hf (hnm f hf)
   have hpl:=row_plain hrow _ q4
   have hag:(isAgg f.type).run P w= .ok false w:=by
    have hu':=run_und q1 w
    cases fd <;> first|(cases q2;done)|simp[isAgg,hu']
   obtain ⟨y,hy⟩: ∃y,X[f.offset]? =some y:=⟨_,List.getElem?_eq_getElem (by omega)⟩
   refine ⟨y,by simp[part,hag,hy],?_⟩
   cases fd with
   |int k=>simp[Instr.checkKey,run_und q1]
   |string=>simp[Instr.checkKey,run_und q1]
   |bool=>simp[Instr.checkKey,run_und q1]
   |_=>first|(cases q2;done)|(simp[leafOf] at q2;subst q2;cases hpl)|(simp only[leafOf] at q2;split at q2 <;> first|(cases q2;done)|(obtain rfl:=Option.some.inj q2;cases hpl))
  rw[Instr.checkKey]
  generalize Instr.checkKey e (n+1)=g at step ⊢
  simp only[Sem.run_bind,run_und hu,Result.andThen_ok]
  rw[←Array.forIn_toList]
  have hloop: ∀l:List Field,(∀f∈l,f.name≠ "_")→(∀f∈l, ∃y,(part f.type X.toArray f.offset).run P w= .ok y w∧(g f.type y).run P w= .ok () w)→
   (forIn l PUnit.unit fun f (_:PUnit)=>if f.name≠ "_" then do g f.type (←part f.type X.toArray f.offset);pure (ForInStep.yield PUnit.unit) else pure (ForInStep.yield PUnit.unit):Sem PUnit).run P w= .ok PUnit.unit w:=by
   intro l
   induction l with
   |nil=>intro _ _;simp
   |cons f l ih=>
    intro hn hs
    obtain ⟨y,y1,y2⟩:=hs f List.mem_cons_self
    have hne:=hn f List.mem_cons_self
    simp only[List.forIn_cons,Sem.run_bind,hne,ne_eq,not_false_eq_true,if_true,y1,y2,Result.andThen_ok,Sem.run_pure]
    exact ih (fun g hg=>hn g (List.mem_cons_of_mem _ hg)) (fun g hg=>hs g (List.mem_cons_of_mem _ hg))
  rw[hloop fs.toList hnm step]
  rfl
theorem findNow_spec{desc:TypeDesc}{K:Value}: ∀(l:List MapEntry) (j:Nat),(∀e∈l, ∃b,Instr.sameNow desc K e.key=some b)→
 (∃i e,l[i]? =some e∧Instr.sameNow desc K e.key=some true∧Instr.findNow desc K l j=some (some (j+i,e.val)))∨((∀e∈l,Instr.sameNow desc K e.key=some false)∧Instr.findNow desc K l j=some none)
 |[],j,_=> .inr ⟨by simp,rfl⟩
 |e::l,j,h=>by
  obtain ⟨b,hb⟩:=h e List.mem_cons_self
  cases b with
  |true=>exact .inl ⟨0,e,rfl,hb,by simp[Instr.findNow,hb]⟩
  |false=>
   rcases findNow_spec l (j+1) (fun x hx=>h x (List.mem_cons_of_mem _ hx)) with ⟨i,x,h1,h2,h3⟩|⟨h1,h2⟩
   ·refine .inl ⟨i+1,x,by simpa using h1,h2,?_⟩
    simp only[Instr.findNow,hb,h3]
    simp;omega
   ·refine .inr ⟨fun x hx=>?_,by simp only[Instr.findNow,hb,h2]⟩
    rcases List.mem_cons.1 hx with rfl|hx
    ·exact hb
    ·exact h1 x hx
theorem findAsking_spec{t:TypeId}{K:Value}: ∀(l:List MapEntry) (j:Nat),(∀e∈l, ∃b,(b=true↔K=e.key)∧ ∀w,(Op.equal t K e.key).run P w= .ok b w)→ ∃r,(∀w,(Instr.findAsking t K l j).run P w= .ok r w)∧
 ((∃i e,r=some (j+i,e.val)∧l[i]? =some e∧e.key=K)∨(r=none∧ ∀e∈l,e.key≠K))
 |[],j,_=>⟨none,fun w=>rfl, .inr ⟨rfl,by simp⟩⟩
 |e::l,j,h=>by
  obtain ⟨b,hb1,hb2⟩:=h e List.mem_cons_self
  cases b with
  |true=>exact ⟨some (j,e.val),fun w=>by simp[Instr.findAsking,hb2], .inl ⟨0,e,by simp,rfl,(hb1.1 rfl).symm⟩⟩
  |false=>
   obtain ⟨r,r1,r2⟩:=findAsking_spec l (j+1) (fun x hx=>h x (List.mem_cons_of_mem _ hx))
   refine ⟨r,fun w=>by simp[Instr.findAsking,hb2,r1],?_⟩
   rcases r2 with ⟨i,x,rfl,h1,h2⟩|⟨rfl,h1⟩
   ·exact .inl ⟨i+1,x,by simp;omega,by simpa using h1,h2⟩
   ·refine .inr ⟨rfl,fun x hx=>?_⟩
    rcases List.mem_cons.1 hx with rfl|hx
    ·intro eq;have:=hb1.2 eq.symm;cases this
    ·exact h1 x hx
theorem mfind_true{d:KEq}{key:AV}: ∀ {es:List (AV × AV)} {kf:AV→Bool} {kn:Unit→Bool},mfind d key es kf kn=true→
 (∃a∈es,d key a.1=some true∧kf a.2=true)∨((∀a∈es,d key a.1=some false)∧kn ()=true)
 |[],_,_,h=> .inr ⟨by simp,h⟩
 |a::es,kf,kn,h=>by
  have h':(optK (d key a.1) fun b=>bc b (kf a.2) (mfind d key es kf kn))=true:=h
  obtain ⟨b,hb,h1⟩:=optK_true h'
  cases b with
  |true=>exact .inl ⟨a,List.mem_cons_self,hb,h1⟩
  |false=>
   rcases mfind_true (es:=es) h1 with ⟨x,h2,h3,h4⟩|⟨h2,h3⟩
   ·exact .inl ⟨x,List.mem_cons_of_mem _ h2,h3,h4⟩
   ·refine .inr ⟨fun x hx=>?_,h3⟩
    rcases List.mem_cons.1 hx with rfl|hx
    ·exact hb
    ·exact h2 x hx
theorem fits_all{d:KEq}{key:AV}{es:List (AV × AV)}(h:lall (fitsKey d key) es=true): ∀a∈es, ∃b,d key a.1=some b:=fun a ha=>by
 obtain ⟨b,hb,_⟩:=optK_true ((lall_iff _ _).1 h a ha)
 exact ⟨b,hb⟩
theorem self_true{d:KEq}{key:AV}(h:selfKey d key=true): ∃b,d key key=some b:=by
 obtain ⟨b,hb,_⟩:=optK_true h
 exact ⟨b,hb⟩
theorem run_findKey{t:TypeId}{d:KEq}(hd:keyED P t=some d){key:AV}{K:Value}(hK:conc σ key=some K){es:List (AV × AV)}{l:List MapEntry}{cl:Nat}(hm:MapU σ es l cl)
 (hf: ∀a∈es, ∃b,d key a.1=some b): ∃r,(∀w,(Instr.findKey t K l).run P w= .ok r w)∧
   ((∃i e,r=some (i,e.val)∧l[i]? =some e∧e.key=K)∨(r=none∧ ∀e∈l,e.key≠K)):=by
 have hsame: ∀e∈l, ∃b,(b=true↔K=e.key)∧((∃desc,tund P t=some desc∧Instr.sameNow desc K e.key=some b)∨((∃fs,tund P t=some (.struct fs))∧ ∀w,(Op.equal t K e.key).run P w= .ok b w)):=fun e he=>by
  obtain ⟨a,h1,h2⟩:=hm.left e he
  obtain ⟨b,hb⟩:=hf a h1
  exact ⟨b,same_key (P:=P) hd hb hK h2.1⟩
 rcases keyED_cases hd with ⟨desc,ed,hu,hl,hp,rfl⟩|⟨fs,m,ds,hu,hn,hds,hst,hrow,hlen,hnm,rfl⟩
 ·have hnow: ∀e∈l, ∃b,Instr.sameNow desc K e.key=some b∧(b=true↔K=e.key):=fun e he=>by
   obtain ⟨b,h1,h2⟩:=hsame e he
   rcases h2 with ⟨desc',h3,h4⟩|⟨⟨fs,h3⟩,_⟩
   ·rw[hu] at h3;obtain rfl:=Option.some.inj h3;exact ⟨b,h4,h1⟩
   ·rw[hu] at h3;obtain rfl:=Option.some.inj h3;cases hl
  rcases findNow_spec (desc:=desc) (K:=K) l 0 (fun e he=>let ⟨b,h,_⟩:=hnow e he;⟨b,h⟩) with ⟨i,e,h1,h2,h3⟩|⟨h1,h2⟩
  ·refine ⟨some (i,e.val),fun w=>?_, .inl ⟨i,e,rfl,h1,?_⟩⟩
   ·simp[Instr.findKey,run_und hu,h3]
   ·obtain ⟨b,h4,h5⟩:=hnow e (List.mem_of_getElem? h1)
    rw[h2] at h4;obtain rfl:=Option.some.inj h4
    exact (h5.1 rfl).symm
  ·refine ⟨none,fun w=>by simp[Instr.findKey,run_und hu,h2], .inr ⟨rfl,fun e he hk=>?_⟩⟩
   obtain ⟨b,h4,h5⟩:=hnow e he
   rw[h1 e he] at h4;obtain rfl:=Option.some.inj h4
   exact absurd (h5.2 hk.symm) (by simp)
 ·have hask: ∀e∈l, ∃b,(b=true↔K=e.key)∧ ∀w,(Op.equal t K e.key).run P w= .ok b w:=fun e he=>by
   obtain ⟨b,h1,h2⟩:=hsame e he
   rcases h2 with ⟨desc',h3,h4⟩|⟨_,h3⟩
   ·rw[hu] at h3;obtain rfl:=Option.some.inj h3
    cases K <;> simp[Instr.sameNow] at h4
   ·exact ⟨b,h1,h3⟩
  cases l with
  |nil=>exact ⟨none,fun w=>by simp[Instr.findKey,run_und hu,Instr.findNow], .inr ⟨rfl,by simp⟩⟩
  |cons e l=>
   obtain ⟨r,r1,r2⟩:=findAsking_spec (e::l) 0 hask
   have hnow:Instr.findNow (.struct fs) K (e::l) 0=none:=by
    have:Instr.sameNow (.struct fs) K e.key=none:=by cases K <;> rfl
    simp[Instr.findNow,this]
   refine ⟨r,fun w=>by simp[Instr.findKey,run_und hu,hnow,r1],?_⟩
   rcases r2 with ⟨i,x,rfl,h1,h2⟩|h
   ·exact .inl ⟨i,x,by simp,h1,h2⟩
   ·exact .inr h
theorem zAV2_conc{v:Value}{z:AV}(h:zAV2 v=some z)(σ:Sg):conc σ z=some v:=by
 unfold zAV2 at h
 split at h
 ·rename_i cs
  cases hv:ofVs cs.toList with
  |none=>simp[hv] at h
  |some l=>simp[hv] at h;subst h;simp[conc,ofVs_conc hv σ]
 ·exact ofV_conc h σ
theorem zAV_some{t:TypeId}{z:AV}(h:zAV P t=some z): ∃v,(∀w,(zeroValue t).run P w= .ok v w)∧ ∀σ:Sg,conc σ z=some v:=by
 unfold zAV at h
 split at h
 ·rename_i i hi
  split at h
  ·rename_i v hv
   exact ⟨v,run_zero (tinfo_some hi) hv,zAV2_conc h⟩
  ·cases h
 ·cases h
theorem conc_okRes{ok b:Bool}{v:AV}{x:Value}(h:conc σ v=some x):conc σ (okRes ok v b)=some (if ok then .tuple #[x, .bool b] else x):=by
 cases ok
 ·exact h
 ·have:concL σ [v, .bool b]=some [x, .bool b]:=concL_cons.2 ⟨x,_,rfl,h,concL_cons.2 ⟨_,_,rfl,rfl,rfl⟩⟩
  simp[okRes,bc,conc,this]
theorem sLook{t:TypeId}{x i:Operand}{ok:Bool}(ho:o.op= .lookup t x i ok):RShows P rs o (pLook P rs t x i ok):=fun F R H k hk=>by
 have hx:x∈o.op.operands:=by rw[ho];simp[Op.operands]
 have hi:i∈o.op.operands:=by rw[ho];simp[Op.operands]
 have hnd: ∀c,o.op≠ .defer c:=by intro c hc;rw[ho] at hc;cases hc
 unfold pLook at hk
 split at hk
 ·rename_i kt e hu
  unfold pLook2 at hk
  split at hk
  ·rename_i d z hd hz
   obtain ⟨dx,di,hdx,hdi,hk0⟩:=od2_true hk
   obtain ⟨hself,hk1⟩:=chk_iff.1 hk0
   obtain ⟨bs,hbs⟩:=self_true hself
   obtain ⟨zv,hz1,hz2⟩:=zAV_some hz
   rcases asMap_true hk1 with ⟨h1,hk2⟩|⟨b,h1,hk2⟩
   ·refine ⟨dx,_,by simpa[readAt,ho] using hdx,hk2,⟨hnd,fun σ a w hr hs=>⟨_,conc_okRes (hz2 σ),?_⟩⟩,fun b' hb'=>by rw[h1] at hb';cases hb'⟩
    have e1:=hr x hx dx hdx
    rw[h1] at e1;have e2:=conc_nilm e1
    have hkey:(Instr.checkKey true 10000 kt (a.eval i)).run P w= .ok () w:=run_checkKey hd hbs (hr i hi di hdi) _ 9998 _
    obtain ⟨r,f1,f2⟩:=run_findKey (P:=P) hd (hr i hi di hdi) (es:=[]) (l:=[]) (cl:=0) ⟨⟨[], .refl _,trivial⟩,by simp,by simp,by simp,rfl⟩ (by simp)
    have hr0:r=none:=by rcases f2 with ⟨j,y,_,h,_⟩|⟨h,_⟩; ·simp at h
                        ·exact h
    subst hr0
    simp[execOp,ho,Instr.lookup,run_und hu,e2,hkey,f1,hz1]
   ·obtain ⟨es,h2,hk3⟩:=hmapU_true hk2
    obtain ⟨h3,hk4⟩:=chk_iff.1 hk3
    have hf:=fits_all h3
    have fin: ∀(v:AV) (found:Bool),k (okRes ok v found) H=true→(∀(σ:Sg) (l:List MapEntry) (cl:Nat) (K:Value),conc σ (evd R di)=some K→MapU σ es l cl→
     ∃xv,conc σ v=some xv∧((found=true∧ ∃e∈l,e.key=K∧e.val=xv)∨(found=false∧(∀e∈l,e.key≠K)∧xv=zv)))→ ∃y v,readAt rs o=some y∧k v H=true∧RSpec P rs o R H (blkOf (evd R y)) v∧ ∀b,blkOf (evd R y)=some b→hget H b≠ .free:=fun v found hk hsp=>by
     have hbk:blkOf (evd R dx)=some b:=by rw[h1];rfl
     refine ⟨dx,_,by simpa[readAt,ho] using hdx,hk,⟨hnd,fun σ a w hr hs=>?_⟩,fun b' hb'=>by rw[hbk] at hb';cases hb';rcases h2 with h2|h2 <;> rw[h2] <;> simp⟩
     have e1:=hr x hx dx hdx
     rw[h1] at e1;obtain ⟨en,e2,e3⟩:=conc_mp e1
     have hK:=hr i hi di hdi
     obtain ⟨l,cl,m1,m2⟩:=(hs b hbk).map e2 h2
     obtain ⟨xv,c1,c2⟩:=hsp σ l.toList cl _ hK m2
     refine ⟨_,conc_okRes c1,?_⟩
     have hkey:(Instr.checkKey l.isEmpty 10000 kt (a.eval i)).run P w= .ok () w:=run_checkKey hd hbs hK _ 9998 _
     obtain ⟨r,f1,f2⟩:=run_findKey (P:=P) hd hK m2 hf
     rcases c2 with ⟨rfl,y,y1,y2,y3⟩|⟨rfl,c3,c4⟩
     ·rcases f2 with ⟨j,z',rfl,g2,g3⟩|⟨_,g2⟩
      ·have:z'=y:=nodup_inj m2.keys z' (List.mem_of_getElem? g2) y y1 (g3.trans y2.symm)
       subst this
       simp[execOp,ho,Instr.lookup,run_und hu,e3,MapKept.run_getObj_map m1,hkey,f1,y3]
      ·exact absurd y2 (g2 y y1)
     ·rcases f2 with ⟨j,z',_,g2,g3⟩|⟨rfl,_⟩
      ·exact absurd g3 (c3 z' (List.mem_of_getElem? g2))
      ·simp[execOp,ho,Instr.lookup,run_und hu,e3,MapKept.run_getObj_map m1,hkey,f1,hz1,c4]
    rcases mfind_true hk4 with ⟨p,p1,p2,p3⟩|⟨p1,p2⟩
    ·refine fin p.2 true p3 fun σ l cl K hK hm=>?_
     obtain ⟨y,y1,y2⟩:=hm.right p p1
     obtain ⟨s3,_⟩:=same_key (P:=P) hd p2 hK y2.1
     exact ⟨y.val,y2.2, .inl ⟨rfl,y,y1,(s3.1 rfl).symm,rfl⟩⟩
    ·refine fin z false p2 fun σ l cl K hK hm=>⟨zv,hz2 σ, .inr ⟨rfl,fun y hy hyk=>?_,rfl⟩⟩
     obtain ⟨p,q1,q2⟩:=hm.left y hy
     obtain ⟨s3,_⟩:=same_key (P:=P) hd (p1 p q1) hK q2.1
     exact absurd (s3.2 hyk.symm) (by simp)
  ·exact (vfail_run hk).elim
 ·exact (vfail_run hk).elim
end ops
end Go.Ev
namespace Go.Ev
section ops
variable {P:Program} {rs:Rs} {o:Oper} {R:Fr}
structure Made (σ:Sg) (w w':World) (ob:AO) (e:En):Prop where
 more:More w w'
 blk:e.blk=w.heap.size
 lt:e.blk<w'.heap.size
 br:BR σ w' e ob
def MSpec(P:Program)(rs:Rs)(o:Oper)(R:Fr)(ob:AO)(v:Nat→AV):Prop:=
 (∀c,o.op≠ .defer c)∧ ∀(σ:Sg) (a:Act) (w:World),OdR σ rs R o a→ ∃x w' e,(execOp a.eval o).run P w= .ok (.value x) w'∧Made σ w w' ob e∧ ∀(τ:Sg) (b:Nat),τ b=some e→conc τ (v b)=some x
theorem Sim.made{pr:Nat→Prop}{w0 w w':World}{σ:Sg}{H:Hp}(h:Sim pr w0 σ H w){b:Nat}(hb:hget H b= .free){ob:AO}{e:En}(m:Made σ w w' ob e):
 Sim pr w0 (σ.put b e) (hallocK H ob b) w'∧Grows σ H (σ.put b e) (hallocK H ob b):=
 h.alloc hb m.more m.blk m.lt (m.br.mono (Sg.le_put σ e (h.fresh hb)))
theorem stays_alloc{H:Hp}{ob:AO}{b:Nat}(h:ob≠ .free):Stays H (hallocK H ob b):=fun id hid=>by
 by_cases hi:id=b
 ·subst hi;rw[hget_alloc_self];exact h
 ·rw[hget_alloc_ne _ _ hi];exact hid
theorem MSpec.op{ob:AO}{v:Nat→AV}(h:MSpec P rs o R ob v){H:Hp}{b:Nat}(hb:hget H b= .free)(hf:ob≠ .free):OpSpec P rs o R H (v b) (hallocK H ob b):=⟨stays_alloc hf,fun _ pr w0 σ a w ho hs=>by
 obtain ⟨x,w',e,h1,h2,h3⟩:=h.2 σ a w ho
 obtain ⟨h4,h5⟩:=hs.made hb h2
 exact opRun_value h.1 h1 ⟨_,h5,h3 _ _ (Sg.put_self σ b e),h4⟩⟩
def Plain:AO→Prop
 | .cells _ _ _=>True
 | .map _=>True
 | .umap _=>True
 | .siter _ _ _=>True
 |_=>False
theorem Plain.ne{ob:AO}(h:Plain ob):ob≠ .free:=fun e=>by subst e;exact h
def MShows(P:Program)(rs:Rs)(o:Oper)(V:VB):Prop:=
 ∀(F:Fs) (R:Fr) (H:Hp) (k:KV),V.run F R H k=true→ ∃ob v b,hget H b= .free∧Plain ob∧k (v b) (hallocK H ob b)=true∧MSpec P rs o R ob v
theorem MShows.fail:MShows P rs o vfail:=fun _ _ _ _ h=>(vfail_run h).elim
theorem more_push(w:World)(x:Obj):More w {w with heap:=w.heap.push x}:=
 ⟨rfl,rfl,rfl,by simp,fun k hk=>by simp only[Array.getElem?_push];rw[if_neg (by omega)]⟩
theorem made_cells{σ:Sg}{w w':World}{l:List AV}{xs rest:List Value}(hl:concL σ l=some xs){el:Nat}{sp:Bool}{fz:Nat × Nat}(hm:More w w')(hh:w'.heap[w.heap.size]? =some (.cells (xs++rest).toArray el fz))
 (hfz:fz=(0,0)∨(xs++rest).length≤fz.1) (hsp:sp=false→rest=[]):Made σ w w' (.cells el sp (csOf l)) ⟨w.heap.size,0,(xs++rest).length⟩:=by
 have hlen:=concL_length hl
 refine ⟨hm,rfl,getElem?_lt hh,(xs++rest).toArray,fz,⟨hh,?_,by simp,fun i hi=>?_,fun i hi=>?_,fun h=>?_⟩⟩
 ·rw[csOf_n];simp;omega
 ·rw[csOf_n] at hi
  rw[csOf_get l i hi]
  obtain ⟨y,h1,h2⟩:=concL_get i hl l[i] (by simp[hi])
  refine ⟨y,?_,?_⟩
  ·simp;rw[List.getElem?_append_left (by omega)];exact h1
  ·rw[List.getD_eq_getElem?_getD,List.getElem?_eq_getElem hi];exact h2
 ·simp at hi
  rcases hfz with rfl|h
  ·simp
  ·simp at h;simp;intro _;omega
 ·simp[csOf_n,hsp h];omega
theorem made_row{σ:Sg}{w:World}{l:List AV}{xs:List Value}(hl:concL σ l=some xs)(el:Nat):Made σ w {w with heap:=w.heap.push (.cells xs.toArray el)} (.cells el false (csOf l)) ⟨w.heap.size,0,xs.length⟩:=by
 have:=made_cells (rest:=[]) (sp:=false) (el:=el) (fz:=(0,0)) hl (more_push w (.cells xs.toArray el)) (by simp) (.inl rfl) (fun _=>rfl)
 simpa using this
theorem sAlloc{e:TypeId}(ho:o.op= .alloc e):MShows P rs o (pAlloc P e):=fun F R H k hk=>by
 unfold pAlloc at hk
 split at hk
 ·rename_i z hz
  obtain ⟨b,hb,hk1⟩:=halloc_true hk
  obtain ⟨i,v,h1,h2,h3,h4,h5⟩:=zO_some hz
  refine ⟨_,fun b=> .ptr b 0,b,hb,(by exact True.intro),hk1,⟨(by intro c hc;rw[ho] at hc;cases hc),fun σ a w hr=>?_⟩⟩
  refine ⟨.pointer (some ⟨w.heap.size,0,none⟩),_,_,?_,made_row (h5 σ) e,fun τ b ht=>by simp[conc,ht]⟩
  simp[execOp,ho,Instr.alloc,run_zero h1 h2,newVar,newRow,newObj,Sem.run]
 ·exact (vfail_run hk).elim
theorem sBox{e:TypeId}{x:Operand}(ho:o.op= .box e x):MShows P rs o (pBox rs e x):=fun F R H k hk=>by
 obtain ⟨d,hd,hk0⟩:=od1_true hk
 obtain ⟨b,hb,hk1⟩:=halloc_true hk0
 refine ⟨_,fun b=> .ptr b 0,b,hb,(by exact True.intro),hk1,⟨(by intro c hc;rw[ho] at hc;cases hc),fun σ a w hr=>?_⟩⟩
 have h1:=hr x (by rw[ho];simp[Op.operands]) d hd
 refine ⟨.pointer (some ⟨w.heap.size,0,none⟩),_,_,?_,made_row (conc_cells h1) e,fun τ b ht=>by simp[conc,ht]⟩
 simp[execOp,ho,Instr.box,newVar,newRow,newObj,Sem.run]
theorem sMkM{t:TypeId}{r:Option Operand}(ho:o.op= .makeMap t r):MShows P rs o (pMkM t r):=fun F R H k hk=>by
 unfold pMkM at hk
 split at hk
 ·obtain ⟨b,hb,hk1⟩:=halloc_true hk
  refine ⟨_,fun b=> .mp b,b,hb,(by exact True.intro),hk1,⟨(by intro c hc;rw[ho] at hc;cases hc),fun σ a w hr=>?_⟩⟩
  refine ⟨.map (some w.heap.size),_,⟨w.heap.size,0,0⟩,by simp[execOp,ho,Instr.makeMap,newObj,Sem.run],⟨more_push w (.map #[] 0),rfl,by simp,⟨#[],0,by simp,⟨trivial,by simp,by simp,rfl⟩⟩⟩,fun τ b ht=>by simp[conc,ht]⟩
 ·exact (vfail_run hk).elim
theorem flat_get(z:List Value): ∀(n i:Nat),i<n*z.length→(List.replicate n z).flatten[i]? =z[i % z.length]?
 |0,i,h=>by simp at h
 |n+1,i,h=>by
  rw[List.replicate_succ,List.flatten_cons]
  by_cases hi:i<z.length
  ·rw[List.getElem?_append_left hi,Nat.mod_eq_of_lt hi]
  ·have hle:z.length≤i:=by omega
   rw[List.getElem?_append_right hle,flat_get z n (i-z.length) (by rw[Nat.succ_mul] at h;omega), ←Nat.mod_eq_sub_mod hle]
theorem rep_cells(z:Array Value)(n:Nat):madeCells z (n*z.size)=(List.replicate n z.toList).flatten.toArray:=by
 apply Array.ext
 ·simp[size_madeCells]
 ·intro i h1 h2
  rw[size_madeCells] at h1
  have hz:0<z.size:=by
   rcases Nat.eq_zero_or_pos z.size with h|h
   ·rw[h] at h1;simp at h1
   ·exact h
  have hm:i % z.size<z.size:=Nat.mod_lt _ hz
  have h3:(List.replicate n z.toList).flatten[i]? =some z[i % z.size]:=by
   rw[flat_get _ _ _ (by simpa using h1)]
   simp[hm]
  have h4:(madeCells z (n*z.size))[i]=z[i % z.size]:=by
   simp only[madeCells,Array.getElem_map,Array.getElem_range]
   rw[getElem!_pos z (i % z.size) hm]
  rw[h4]
  simp only[List.getElem_toArray]
  have:=List.getElem?_eq_some_iff.1 h3
  exact this.2.symm
theorem concL_rep{σ:Sg}{z:List AV}{v:List Value}(h:concL σ z=some v): ∀n,concL σ (List.replicate n z).flatten=some (List.replicate n v).flatten
 |0=>rfl
 |n+1=>by
  rw[List.replicate_succ,List.replicate_succ,List.flatten_cons,List.flatten_cons]
  exact concL_append h (concL_rep h n)
theorem sBSlice{t:TypeId}{len:Nat}{parts:Array (Nat × Operand)}(ho:o.op= .buildSlice t len parts):MShows P rs o (pBSlice P rs t len parts):=fun F R H k hk=>by
 unfold pBSlice at hk
 split at hk
 ·rename_i e hu
  unfold pBSlice2 at hk
  split at hk
  ·rename_i n z hn hz
   split at hk
   ·rename_i ps hps
    rw[bc_eq] at hps
    split at hps
    ·rename_i hle
     have hle':len*n≤16777216:=ble_iff.1 hle
     obtain ⟨l,h1,h2,h3⟩:=fillL_true (partsA_R hps) hk
     obtain ⟨b,hb,hk1⟩:=halloc_true h1
     refine ⟨_,fun b=> .sl b 0 len len,b,hb,(by exact True.intro),hk1,⟨(by intro c hc;rw[ho] at hc;cases hc),fun σ a w hr=>?_⟩⟩
     obtain ⟨i,v,z1,z2,z3,z4,z5⟩:=zO_some hz
     obtain ⟨i',s1,s2⟩:=szO_some hn
     rw[z1] at s1;obtain rfl:=Option.some.inj s1
     have hzc:concL σ (lrep len z)=some (List.replicate len v.cells.toList).flatten:=by rw[lrep_eq];exact concL_rep (z5 σ) len
     obtain ⟨ys,y1,y2⟩:=h3 σ a (fun p hp d hd=>hr p.2 (by rw[ho];simp only[Op.operands];simp;exact ⟨p.1,by simpa using hp⟩) d hd) (List.replicate len v.cells.toList).flatten.toArray (by simpa using hzc)
     have hm:=made_row (w:=w) y1 e
     refine ⟨.slice (some ⟨w.heap.size,0,none⟩) len len,_,_,?_,hm,fun τ b ht=>by simp[conc,ht]⟩
     have hle2: ¬(16777216<len*n):=by omega
     have hcell:(Array.range (len*n)).map ((if len*n=0 then #[] else v.cells)[· % (if len*n=0 then #[] else v.cells).size]!)=(List.replicate len v.cells.toList).flatten.toArray:=by
      rw[←rep_cells,z3,s2]
      by_cases h0:len*n=0
      ·simp[h0,madeCells,Array.range_zero']
      ·simp[h0,madeCells]
     have hparts:(parts.map fun p=>(p.1,a.eval p.2)).toList=parts.toList.map fun p=>(p.1,a.eval p.2):=by simp
     by_cases h0:len*n=0
     ·simp only[h0,if_true] at hcell
      simp[execOp,ho,Instr.buildSlice,run_und hu,run_sizeOf' hn,h0,newRow,newObj]
      have hz0:(List.replicate len v.cells.toList).flatten.toArray= #[]:=by rw[←hcell];simp[Array.range_zero']
      rw[hz0] at y2
      rw[show Array.map (fun _=>(default:Value)) (Array.range 0)= #[] by simp[Array.range_zero'],y2]
      rfl
     ·simp only[h0,if_false] at hcell
      simp[execOp,ho,Instr.buildSlice,run_und hu,run_sizeOf' hn,h0,hle2,run_zero z1 z2,newRow,newObj]
      rw[hcell,y2]
      rfl
    ·cases hps
   ·exact (vfail_run hk).elim
  ·exact (vfail_run hk).elim
 ·exact (vfail_run hk).elim
theorem sMkS{t:TypeId}{x y:Operand}(ho:o.op= .makeSlice t x y):MShows P rs o (pMkS P rs t x y):=fun F R H k hk=>by
 have hx:x∈o.op.operands:=by rw[ho];simp[Op.operands]
 have hy:y∈o.op.operands:=by rw[ho];simp[Op.operands]
 unfold pMkS at hk
 split at hk
 ·rename_i e hu
  unfold pMkS2 at hk
  split at hk
  ·rename_i i z hi hz
   obtain ⟨d1,d2,hd1,hd2,hk1⟩:=od2_true hk
   obtain ⟨j1,n1,e1,hk2⟩:=asInt_true hk1
   obtain ⟨l,rfl,hk3⟩:=natK_true hk2
   obtain ⟨j2,n2,e2,hk4⟩:=asInt_true hk3
   obtain ⟨c,rfl,hk5⟩:=natK_true hk4
   obtain ⟨c1,hk6⟩:=chk_iff.1 hk5
   obtain ⟨c2,hk7⟩:=chk_iff.1 hk6
   obtain ⟨c3,hk8⟩:=chk_iff.1 hk7
   obtain ⟨b,hb,hk9⟩:=halloc_true hk8
   have c1':l≤c:=ble_iff.1 c1
   have c2':c≤1099511627776:=ble_iff.1 c2
   have c3':i.bytes*c≤140737488355328:=ble_iff.1 c3
   obtain ⟨i',v,z1,z2,z3,z4,z5⟩:=zO_some hz
   rw[tinfo_some hi] at z1;obtain rfl:=Option.some.inj z1
   refine ⟨_,fun b=> .sl b 0 l c,b,hb,(by exact True.intro),hk9,⟨(by intro c hc;rw[ho] at hc;cases hc),fun σ a w hr=>?_⟩⟩
   have k1:=one_int hr hx hd1 e1
   have k2:=one_int hr hy hd2 e2
   have hzc:concL σ (lrep c z)=some (List.replicate c v.cells.toList).flatten:=by rw[lrep_eq];exact concL_rep (z5 σ) c
   refine ⟨.slice (some ⟨w.heap.size,0,none⟩) l c,_,_,?_,made_row (w:=w) hzc e,fun τ b ht=>by simp[conc,ht]⟩
   have c4:(i.bytes:Int)*(c:Int)≤281474976710656:=by
    have:((i.bytes*c:Nat):Int)≤((140737488355328:Nat):Int):=Int.ofNat_le.2 c3'
    rw[Int.natCast_mul] at this;omega
   have run:=run_make w t e i v (tund_some hu) (tinfo_some hi) z2 j1 j2 l c (by omega) (by omega) c4 (by omega)
   have hmc:=rep_cells v.cells c
   rw[z3] at hmc
   simp only[execOp,ho,k1,k2,Sem.run_bind,run,Result.andThen_ok,Int.toNat_natCast,hmc]
   rfl
  ·exact (vfail_run hk).elim
 ·exact (vfail_run hk).elim
theorem lbytes1_conc{σ:Sg}: ∀(l n:Nat),concL σ (lbytes1 l n)=some ((unpack l n).map fun b=>Value.int .u8 b.toNat)
 |0,n=>rfl
 |l+1,n=>by
  have e:lbytes1 (l+1) n= .int .u8 (Int.ofNat (Nat.mod n 256))::lbytes1 l (n / 256):=congrArg (List.cons _) (lit_eq _ _)
  rw[e]
  refine concL_cons.2 ⟨_,_,rfl,?_,lbytes1_conc l (n / 256)⟩
  have:(UInt8.ofNat (n % 256)).toNat=n % 256:=by simp
  simp only[conc,Option.some.injEq,this];rfl
theorem lbytesC_conc{σ:Sg}(c:Nat): ∀(m l n:Nat),m*c≤l→concL σ (lbytesC c m l n)=some ((unpack l n).map fun b=>Value.int .u8 b.toNat)
 |0,l,n,_=>lbytes1_conc l n
 |m+1,l,n,h=>by
  have e:lbytesC c (m+1) l n=lapp (lit (Nat.mod n (p256 c)) (lbytes1 c)) (lit (Nat.div n (p256 c)) (lit (Nat.sub l c) (lbytesC c m))):=rfl
  rw[Nat.add_mul,Nat.one_mul] at h
  rw[e,lapp_eq,lit_eq,lit_eq,lit_eq]
  have h1:=concL_app (lbytes1_conc (σ:=σ) c (Nat.mod n (p256 c))) (lbytesC_conc c m (Nat.sub l c) (Nat.div n (p256 c)) (by show _≤l-c;omega))
  rw[h1]
  have e1:unpack c (Nat.mod n (p256 c))=(unpack l n).take c:=by
   show unpack c (n % p256 c)=_
   rw[p256_eq,unpack_mod, ←unpack_take c l n (by omega)]
  have e2:unpack (Nat.sub l c) (Nat.div n (p256 c))=(unpack l n).drop c:=by
   show unpack (l-c) (n / p256 c)=_
   rw[p256_eq,unpack_drop,show c+(l-c)=l by omega]
  rw[e1,e2, ←List.map_append,List.take_append_drop]
theorem lbytes_conc{σ:Sg}(l n:Nat):concL σ (lbytes l n)=some ((unpack l n).map fun b=>Value.int .u8 b.toNat):=
 lbytesC_conc 32 (l / 32) l n (Nat.div_mul_le_self l 32)
theorem run_markStringish(w:World)(b:Nat)(arr:Array Value)(e:TypeId)(hb:w.heap[b]? =some (.cells arr e (0,0))):
 ∃w',(markStringish ⟨b,0,none⟩).run P w= .ok () w'∧w'.os=w.os∧w'.tape=w.tape∧w'.output=w.output∧w'.heap.size=w.heap.size∧(∀k,k≠b→w'.heap[k]? =w.heap[k]?)∧w'.heap[b]? =some (.cells arr e (arr.size,arr.size+1)):=by
 refine ⟨w.freeze {block:=b,off:=arr.size} 1,?_,rfl,rfl,rfl,?_,fun k hk=>?_,?_⟩
 ·simp only[markStringish,shape,Sem.run_bind,Sem.run,World.shape?,hb,Result.andThen_ok,freeze]
 ·simp[World.freeze]
 ·simp[World.freeze,Array.getElem?_modify,Ne.symm hk]
 ·simp[World.freeze,Array.getElem?_modify,hb]
theorem run_stringToBytes(e:TypeId)(s:List UInt8)(w:World): ∃c w',s.length≤c∧(Conv.stringToBytes e (bts s)).run P w= .ok (.slice (some ⟨w.heap.size,0,none⟩) s.length c) w'∧More w w'∧
 w'.heap[w.heap.size]? =some (.cells ((s.map fun b:UInt8=>Value.int .u8 b.toNat)++List.replicate (c-s.length) (Value.int .u8 0)).toArray e (c,c+1)):=by
 have key: ∀c,s.length≤c→ ∀w1:World,w1.heap=w.heap.push (.cells ((s.map fun b:UInt8=>Value.int .u8 b.toNat)++List.replicate (c-s.length) (Value.int .u8 0)).toArray e)→w1.os=w.os→w1.tape=w.tape→w1.output=w.output→
  ∃w',(markStringish ⟨w.heap.size,0,none⟩).run P w1= .ok () w'∧More w w'∧w'.heap[w.heap.size]? =some (.cells ((s.map fun b:UInt8=>Value.int .u8 b.toNat)++List.replicate (c-s.length) (Value.int .u8 0)).toArray e (c,c+1)):=fun c hc w1 h1 h2 h3 h4=>by
  obtain ⟨w',k1,k2,k3,k4,k5,k6,k7⟩:=run_markStringish (P:=P) w1 w.heap.size _ e (by rw[h1];exact Array.getElem?_push_size)
  refine ⟨w',k1,⟨k2.trans h2,k3.trans h3,k4.trans h4,by rw[k5,h1];simp,fun k hk=>?_⟩,?_⟩
  ·rw[k6 k (by omega),h1];simp only[Array.getElem?_push];rw[if_neg (by omega)]
  ·rw[k7]
   have:((s.map fun b:UInt8=>Value.int .u8 b.toNat)++List.replicate (c-s.length) (Value.int .u8 0)).toArray.size=c:=by simp;omega
   rw[this]
 let q:Question:= .appendCap s.length 0 e
 have hq:s.length≤q.cut (w.tape w.drawn q):=by simp[q,Question.cut]
 obtain ⟨w',k1,k2,k3⟩:=key (q.cut (w.tape w.drawn q)) hq {w with drawn:=w.drawn+1,heap:=w.heap.push (.cells ((s.map fun b:UInt8=>Value.int .u8 b.toNat)++List.replicate (q.cut (w.tape w.drawn q)-s.length) (Value.int .u8 0)).toArray e)} rfl rfl rfl rfl
 refine ⟨q.cut (w.tape w.drawn q),w',hq,?_,k2,k3⟩
 have harr:(Array.map (fun b:UInt8=>Value.int .u8 b.toNat) (bts s).data++Array.replicate (q.cut (w.tape w.drawn q)-s.length) (Value.int .u8 0))=((s.map fun b:UInt8=>Value.int .u8 b.toNat)++List.replicate (q.cut (w.tape w.drawn q)-s.length) (Value.int .u8 0)).toArray:=by
  simp[bts]
 simp only[Conv.stringToBytes,Sem.run_bind,choose,Sem.run]
 rw[if_neg (by simp[Question.forced])]
 simp only[Result.andThen_ok,newRow,newObj,Sem.run_bind,Sem.run,bts_size,Sem.run_pure]
 rw[show (Question.appendCap s.length 0 e)=q from rfl,harr,k1]
 rfl
theorem sCSB{s t e:TypeId}{x:Operand}{d:Od}(ho:o.op= .convert s t x)(hs:tund P s=some .string)(ht:tund P t=some (.slice e))(he:tund P e=some (.int .u8))(hd:rs x=some d):MShows P rs o (xCSB e d):=fun F R H k hk=>by
 have hx:x∈o.op.operands:=by rw[ho];simp[Op.operands]
 obtain ⟨l,n,e1,hk1⟩:=asStr_true hk
 obtain ⟨b,hb,hk2⟩:=halloc_true hk1
 refine ⟨_,fun b=> .su b 0 l 1,b,hb,(by exact True.intro),hk2,⟨(by intro c hc;rw[ho] at hc;cases hc),fun σ a w hr=>?_⟩⟩
 have k1:=one_str hr hx hd e1
 obtain ⟨c,w',h1,h2,h3,h4⟩:=run_stringToBytes (P:=P) e (unpack l n) w
 rw[unpack_length] at h1 h2 h4
 have hm:=made_cells (sp:=true) (lbytes_conc (σ:=σ) l n) h3 h4 (.inr (by simp[unpack_length];omega)) (by simp)
 refine ⟨.slice (some ⟨w.heap.size,0,none⟩) l c,w',_,?_,hm,fun τ b ht=>?_⟩
 ·simp only[execOp,ho,k1,Sem.run_bind,convert,run_und hs,run_und ht,run_und he,Result.andThen_ok,h2]
  rfl
 ·simp only[conc,ht,Option.bind_some]
  simp[unpack_length];omega
theorem runesA_true: ∀ {l n:Nat} {k:List AV→Bool},runesA l n k=true→ ∃cs,k cs=true∧(∀b∈unpack l n,b.toNat<128)∧ ∀σ:Sg,concL σ cs=some ((unpack l n).map fun b=>Value.int .i32 b.toNat)
 |0,n,k,h=>⟨[],h,fun _ h=>(by cases h),fun _=>rfl⟩
 |l+1,n,k,h=>by
  have h':chk (Nat.blt (Nat.mod n 256) 128) (lit (Nat.div n 256) (fun m=>runesA l m (fun r=>k (.int .i32 (Int.ofNat (Nat.mod n 256))::r))))=true:=h
  obtain ⟨h1,h2⟩:=chk_iff.1 h'
  rw[lit_eq] at h2
  obtain ⟨cs,h3,h4,h5⟩:=runesA_true h2
  have hlt:n % 256<128:=blt_iff.1 h1
  have e:(UInt8.ofNat (n % 256)).toNat=n % 256:=by simp
  refine ⟨_,h3,fun b hb=>?_,fun σ=>?_⟩
  ·rcases List.mem_cons.1 hb with rfl|hb
   ·rw[e];exact hlt
   ·exact h4 b hb
  ·refine concL_cons.2 ⟨_,_,rfl,?_,h5 σ⟩
   simp only[conc,Option.some.injEq,e];rfl
theorem runesFrom_ascii(s:List UInt8)(hs: ∀b∈s,b.toNat<128): ∀(bound i:Nat) (acc:Array Value),s.length=i+bound→Conv.runesFrom (bts s) bound i acc=acc++((s.drop i).map fun b:UInt8=>Value.int .i32 b.toNat).toArray
 |0,i,acc,h=>by
  rw[List.drop_of_length_le (by omega)]
  simp[Conv.runesFrom]
 |bound+1,i,acc,h=>by
  have hi:i<(bts s).size:=by rw[bts_size];omega
  have hi':i<s.length:=by omega
  have hg:(bts s)[i]'hi=s[i]:=by simp[bts,ByteArray.getElem_eq_getElem_data]
  have ha:((bts s)[i]'hi).toNat<128:=by rw[hg];exact hs _ (List.getElem_mem hi')
  rw[Conv.runesFrom,if_pos hi]
  simp only[decode_ascii (bts s) i hi ha]
  rw[runesFrom_ascii s hs bound (i+1) _ (by omega),hg,List.drop_eq_getElem_cons hi',List.map_cons]
  apply Array.ext'
  simp
theorem run_stringToRunes(e:TypeId)(s:List UInt8)(hs: ∀b∈s,b.toNat<128)(w:World): ∃c w',s.length≤c∧(Conv.stringToRunes e (bts s)).run P w= .ok (.slice (some ⟨w.heap.size,0,none⟩) s.length c) w'∧More w w'∧
 w'.heap[w.heap.size]? =some (.cells ((s.map fun b:UInt8=>Value.int .i32 b.toNat)++List.replicate (c-s.length) (Value.int .i32 0)).toArray e (0,0)):=by
 let q:Question:= .appendCap s.length 0 e
 have hq:s.length≤q.cut (w.tape w.drawn q):=by simp[q,Question.cut]
 have hr:=runesFrom_ascii s hs s.length 0 #[] (by omega)
 have hr':Conv.runesFrom (bts s) s.length 0 #[]=(s.map fun b:UInt8=>Value.int .i32 b.toNat).toArray:=by rw[hr];simp
 refine ⟨q.cut (w.tape w.drawn q),{w with drawn:=w.drawn+1,heap:=w.heap.push (.cells ((s.map fun b:UInt8=>Value.int .i32 b.toNat)++List.replicate (q.cut (w.tape w.drawn q)-s.length) (Value.int .i32 0)).toArray e)},hq,?_,⟨rfl,rfl,rfl,by simp,fun k hk=>by simp only[Array.getElem?_push];rw[if_neg (by omega)]⟩,by simp⟩
 have harr:(((s.map fun b:UInt8=>Value.int .i32 b.toNat).toArray)++Array.replicate (q.cut (w.tape w.drawn q)-s.length) (Value.int .i32 0))=((s.map fun b:UInt8=>Value.int .i32 b.toNat)++List.replicate (q.cut (w.tape w.drawn q)-s.length) (Value.int .i32 0)).toArray:=by
  simp
 simp only[Conv.stringToRunes,bts_size,hr',Sem.run_bind,choose,Sem.run,List.size_toArray,List.length_map]
 rw[if_neg (by simp[Question.forced])]
 simp only[Result.andThen_ok,newRow,newObj,Sem.run_bind,Sem.run,Sem.run_pure]
 rw[show (Question.appendCap s.length 0 e)=q from rfl,harr]
theorem sCSR{s t e:TypeId}{x:Operand}{d:Od}(ho:o.op= .convert s t x)(hs:tund P s=some .string)(ht:tund P t=some (.slice e))(he:tund P e=some (.int .i32))(hd:rs x=some d):MShows P rs o (xCSR e d):=fun F R H k hk=>by
 have hx:x∈o.op.operands:=by rw[ho];simp[Op.operands]
 obtain ⟨l,n,e1,hk1⟩:=asStr_true hk
 obtain ⟨cs,hk2,ha,hc⟩:=runesA_true hk1
 obtain ⟨b,hb,hk3⟩:=halloc_true hk2
 refine ⟨_,fun b=> .su b 0 l 1,b,hb,(by exact True.intro),hk3,⟨(by intro c hc;rw[ho] at hc;cases hc),fun σ a w hr=>?_⟩⟩
 have k1:=one_str hr hx hd e1
 obtain ⟨c,w',h1,h2,h3,h4⟩:=run_stringToRunes (P:=P) e (unpack l n) ha w
 rw[unpack_length] at h1 h2 h4
 have hm:=made_cells (sp:=true) (hc σ) h3 h4 (.inl rfl) (by simp)
 refine ⟨.slice (some ⟨w.heap.size,0,none⟩) l c,w',_,?_,hm,fun τ b ht=>?_⟩
 ·simp only[execOp,ho,k1,Sem.run_bind,convert,run_und hs,run_und ht,run_und he,Result.andThen_ok,h2]
  rfl
 ·simp only[conc,ht,Option.bind_some]
  simp[unpack_length];omega
theorem sRngS{t:TypeId}{x:Operand}{d:Od}(ho:o.op= .range t x)(hu:tund P t=some .string)(hd:rs x=some d):MShows P rs o (xRngS d):=fun F R H k hk=>by
 have hx:x∈o.op.operands:=by rw[ho];simp[Op.operands]
 obtain ⟨l,n,e1,hk1⟩:=asStr_true hk
 obtain ⟨b,hb,hk2⟩:=halloc_true hk1
 refine ⟨_,fun b=> .ptr b 0,b,hb,(by exact True.intro),hk2,⟨(by intro c hc;rw[ho] at hc;cases hc),fun σ a w hr=>?_⟩⟩
 have k1:=one_str hr hx hd e1
 refine ⟨.pointer (some ⟨w.heap.size,0,none⟩),_,⟨w.heap.size,0,0⟩,by simp[execOp,ho,k1,Instr.range,run_und hu,newObj,Sem.run],⟨more_push w (.stringIter (bts (unpack l n)) 0),rfl,by simp,by simp[BR,bts]⟩,fun τ b ht=>by simp[conc,ht]⟩
end ops
end Go.Ev
namespace Go.Ev
section sim
variable {pr:Nat→Prop} {w0 w w':World} {σ:Sg} {H:Hp}
theorem BR.but'{e:En}{o:AO}{b:Nat}(m:But b w w')(hb: ∀l c,w.heap[b]? ≠some (.map l c))(hne:o≠ .dead→e.blk≠b)(k:BR σ w e o):BR σ w' e o:=by
 have keep: ∀ {c:Nat} {x:Obj},c≠b→w.heap[c]? =some x→w'.heap[c]? =some x:=fun hc h=>(m.same _ hc).trans h
 cases o with
 |free=>exact k
 |dead=>exact k
 |cells el sp c=>obtain ⟨arr,fz,hc⟩:=k;exact ⟨arr,fz,{hc with at_:=keep (hne (by simp)) hc.at_}⟩
 |map es=>obtain ⟨l,cl,h1,h2⟩:=k;exact ⟨l,cl,keep (hne (by simp)) h1,h2⟩
 |umap es=>obtain ⟨l,cl,h1,h2⟩:=k;exact ⟨l,cl,keep (hne (by simp)) h1,h2⟩
 |siter a b c=>exact ⟨k.1,keep (hne (by simp)) k.2⟩
 |miter mm n0 d=>obtain ⟨h0,em,l,cl,si,se,st,h1,h2,h3,r⟩:=k;exact ⟨h0,em,l,cl,si,se,st,h1,keep (hne (by simp)) h2,keep (fun e=>hb _ _ (e▸h3)) h3,r⟩
 |mitv m n se=>obtain ⟨h0,em,h1,h2⟩:=k;exact ⟨h0,em,h1,keep (hne (by simp)) h2⟩
 |loop l=>obtain ⟨r,h1,h2⟩:=k;exact ⟨r,keep (hne (by simp)) h1,h2⟩
theorem BR.butMap{e:En}{o:AO}{b:Nat}(m:But b w w'){l l':Array MapEntry}{cl cl':Nat}(h1:w.heap[b]? =some (.map l cl))(h2:w'.heap[b]? =some (.map l' cl'))(hcl:cl≤cl')
 (hl: ∀x∈l.toList, ∃y∈l'.toList,y.born=x.born) (hne:o≠ .dead→e.blk≠b) (k:BR σ w e o):BR σ w' e o:=by
 have keep: ∀ {c:Nat} {x:Obj},c≠b→w.heap[c]? =some x→w'.heap[c]? =some x:=fun hc h=>(m.same _ hc).trans h
 cases o with
 |free=>exact k
 |dead=>exact k
 |cells el sp c=>obtain ⟨arr,fz,hc⟩:=k;exact ⟨arr,fz,{hc with at_:=keep (hne (by simp)) hc.at_}⟩
 |map es=>obtain ⟨l,cl,h1,h2⟩:=k;exact ⟨l,cl,keep (hne (by simp)) h1,h2⟩
 |umap es=>obtain ⟨l,cl,h1,h2⟩:=k;exact ⟨l,cl,keep (hne (by simp)) h1,h2⟩
 |siter a b c=>exact ⟨k.1,keep (hne (by simp)) k.2⟩
 |miter mm n0 d=>
  obtain ⟨k0,em,l0,cl0,si,se,st,k1,k2,k3,k4,k5,k6,k7⟩:=k
  by_cases hem:em.blk=b
  ·rw[hem,h1] at k3
   simp only[Option.some.injEq,Obj.map.injEq] at k3
   obtain ⟨rfl,rfl⟩:=k3
   refine ⟨k0,em,l',cl',si,se,st,k1,keep (hne (by simp)) k2,hem▸h2,by omega,by omega,fun hn=>?_,k7⟩
   obtain ⟨x,x1,x2,x3⟩:=k6 hn
   obtain ⟨y,y1,y2⟩:=hl x x1
   exact ⟨y,y1,by rw[y2];exact x2,by rw[y2];exact x3⟩
  ·exact ⟨k0,em,l0,cl0,si,se,st,k1,keep (hne (by simp)) k2,keep hem k3,k4,k5,k6,k7⟩
 |mitv m n se=>obtain ⟨h0,em,h1,h2⟩:=k;exact ⟨h0,em,h1,keep (hne (by simp)) h2⟩
 |loop l=>obtain ⟨r,h1,h2⟩:=k;exact ⟨r,keep (hne (by simp)) h1,h2⟩
theorem Sim.set(h:Sim pr w0 σ H w){b:Nat}{e:En}(he:σ b=some e)(hd:hget H b≠ .dead){o:AO}(hfree:o≠ .free)(m:But e.blk w w')(hr:BR σ w' e o)
 (hk: ∀id x,σ id=some x→(hget H id≠ .dead→x.blk≠e.blk)→BR σ w x (hget H id)→BR σ w' x (hget H id)):Sim pr w0 σ (hset H b o) w'∧Grows σ H σ (hset H b o):=by
 have hgt: ∀id,id≠b→hget (hset H b o) id=hget H id:=fun id hid=>hget_hset_ne H _ hid
 refine ⟨⟨by rw[m.size];exact h.size,m.os.trans h.os,m.tape.trans h.tape,m.output.trans h.output,h.glob,fun k hk=>?_,fun id x hx=>?_,fun id x hx=>?_,fun i j x y hx hy di dj hij=>?_⟩,⟨Sg.le_refl σ,fun id hid hf=>?_,fun id hf=>?_⟩⟩
 ·obtain ⟨h1,h2⟩:=h.prot k hk
  exact ⟨h1,(m.same k (fun e'=>(h.lies b e he).2 (e'▸hk))).trans h2⟩
 ·by_cases hid:id=b
  ·subst hid;rw[he] at hx;obtain rfl:=Option.some.inj hx;rw[hget_hset_self];exact hr
  ·rw[hgt id hid]
   exact hk id x hx (fun hd'=>h.inj id b x e hx he hd' hd hid) (h.dom id x hx)
 ·rw[m.size];exact h.lies id x hx
 ·have live: ∀k,hget (hset H b o) k≠ .dead→hget H k≠ .dead:=fun k hk=>by
   by_cases hkb:k=b
   ·subst hkb;exact hd
   ·rwa [hgt k hkb] at hk
  exact h.inj i j x y hx hy (live i di) (live j dj) hij
 ·have hne:id≠b:=fun e'=>by subst e';rw[he] at hid;cases hid
  exact ⟨hid,hgt id hne⟩
 ·by_cases hid:id=b
  ·subst hid;rw[hget_hset_self];exact hfree
  ·rw[hgt id hid];exact hf
theorem stays_set{b:Nat}{o:AO}(h:o≠ .free):Stays H (hset H b o):=fun id hid=>by
 by_cases hi:id=b
 ·subst hi;rw[hget_hset_self];exact h
 ·rw[hget_hset_ne _ _ hi];exact hid
theorem But.trans{b:Nat}{u:World}(h:But b w w')(k:But b w' u):But b w u:=
 ⟨k.os.trans h.os,k.tape.trans h.tape,k.output.trans h.output,k.size.trans h.size,fun c hc=>(k.same c hc).trans (h.same c hc)⟩
theorem But.refl(b:Nat)(w:World):But b w w:=⟨rfl,rfl,rfl,rfl,fun _ _=>rfl⟩
def Laid(arr arr':Array Value)(o:Nat)(vs:List Value):Prop:=arr'.size=arr.size∧ ∀j,arr'[j]? =if o≤j∧j<o+vs.length then vs[j-o]? else arr[j]?
theorem scalar_one{σ:Sg}{v:AV}{x:Value}(h:scalar v=true)(hc:conc σ v=some x):x.oneCell'=true:=by
 cases v <;> simp[scalar] at h <;> simp only[conc] at hc
 case bool=>simp at hc;subst hc;rfl
 case int=>simp at hc;subst hc;rfl
 case str=>simp at hc;subst hc;rfl
 case nilp=>simp at hc;subst hc;rfl
 case nils=>simp at hc;subst hc;rfl
 case nilm=>simp at hc;subst hc;rfl
 case nilf=>simp at hc;subst hc;rfl
 case nili=>simp at hc;subst hc;rfl
 case ptr b o=>cases hs:σ b <;> simp[hs] at hc;subst hc;rfl
 case sl b o l c=>cases hs:σ b <;> simp[hs] at hc;subst hc;rfl
 case su b o l c=>
  cases hs:σ b with
  |none=>simp[hs] at hc
  |some e=>simp only[hs,Option.bind_some] at hc;split at hc <;> simp at hc;subst hc;rfl
 case se b o l c=>
  cases hs:σ b with
  |none=>simp[hs] at hc
  |some e=>
   simp only[hs,Option.bind_some] at hc
   split at hc
   ·simp only[Option.some.injEq] at hc;subst hc;rfl
   ·simp at hc
 case opq b l=>
  cases hs:σ b with
  |none=>simp[hs] at hc
  |some e=>
   simp only[hs,Option.bind_some] at hc
   cases hl:l[e.base]? with
   |none=>simp[hl] at hc
   |some n=>simp[hl] at hc;subst hc;rfl
 case mp b=>cases hs:σ b <;> simp[hs] at hc;subst hc;rfl
 case fn f a c=>split at hc <;> simp at hc;subst hc;rfl
 case ifc t u=>cases hs:conc σ u <;> simp[hs] at hc;subst hc;rfl
theorem scalars_one{σ:Sg}{l:List AV}{xs:List Value}(h:lall scalar l=true)(hc:concL σ l=some xs): ∀x∈xs,x.oneCell'=true:=by
 induction l generalizing xs with
 |nil=>simp[concL] at hc;subst hc;simp
 |cons v l ih=>
  obtain ⟨a,r,rfl,h1,h2⟩:=concL_cons.1 hc
  have h':=(lall_iff _ _).1 h
  intro x hx
  rcases List.mem_cons.1 hx with rfl|hx
  ·exact scalar_one (h' v List.mem_cons_self) h1
  ·exact ih ((lall_iff _ _).2 fun y hy=>h' y (List.mem_cons_of_mem _ hy)) h2 x hx
theorem run_storeCells_own{P:Program}(g o:Nat)(t:TypeId)(fz:Nat × Nat): ∀(vs:List Value) (i:Nat) (arr:Array Value) (w:World),w.heap[g]? =some (.cells arr t fz)→o+i+vs.length≤arr.size→
 (∀j,j<arr.size→(decide (fz.1≤j)&&decide (j<fz.2))=false)→(∀v∈vs,v.oneCell'=true)→
 ∃w' arr',(storeCells ⟨g,o,none⟩ vs i).run P w= .ok () w'∧But g w w'∧w'.heap[g]? =some (.cells arr' t fz)∧Laid arr arr' (o+i) vs
 |[],i,arr,w,hg,_,_,_=>⟨w,arr,rfl,But.refl g w,hg,rfl,fun j=>by rw[if_neg (by simp)]⟩
 |v::vs,i,arr,w,hg,hl,hf,hv=>by
  have hlt:=getElem?_lt hg
  have hfr:w.frozen? ⟨g,o+i,none⟩=false:=by
   have:=hf (o+i) (by simp at hl;omega)
   simp only[World.frozen?,hg]
   simpa using this
  have hcell:(w.cell? ⟨g,o+i,none⟩).isSome=true:=by
   simp only[World.cell?,hg]
   simp;simp at hl;omega
  have hset:(w.setCell ⟨g,o+i,none⟩ v).heap[g]? =some (.cells (arr.setIfInBounds (o+i) v) t fz):=by
   simp only[World.setCell,Array.getElem?_modify,hg]
   simp
  have hbut:But g w (w.setCell ⟨g,o+i,none⟩ v):=⟨rfl,rfl,rfl,by simp[World.setCell],fun k hk=>by simp[World.setCell,Array.getElem?_modify,Ne.symm hk]⟩
  obtain ⟨w',arr',h1,h2,h3,h4,h5⟩:=run_storeCells_own g o t fz vs (i+1) (arr.setIfInBounds (o+i) v) _ hset (by simp at hl ⊢;omega) (by simpa using hf) (fun x hx=>hv x (List.mem_cons_of_mem _ hx))
  refine ⟨w',arr',?_,hbut.trans h2,h3,by simpa using h4,fun j=>?_⟩
  ·obtain ⟨y,hy⟩:=Option.isSome_iff_exists.1 hcell
   have hone:=hv v List.mem_cons_self
   have hrun:=run_store P w ⟨g,o+i,none⟩ v .plain hone
   simp only[storeCells,Sem.run_bind]
   have hadd:(⟨g,o,none⟩:Addr).add i=⟨g,o+i,none⟩:=by
    have:=addr_add ⟨g,o,0⟩ 0 i
    simpa using this
   rw[hadd,hrun,hy]
   simp only[hfr]
   simpa using h1
  ·rw[h5 j]
   simp at hl
   by_cases hj:j=o+i
   ·subst hj
    rw[if_neg (by omega),if_pos (by simp)]
    rw[Array.getElem?_setIfInBounds_self_of_lt (by omega)]
    simp
   ·rw[Array.getElem?_setIfInBounds_ne (Ne.symm hj)]
    by_cases hin:o+i≤j∧j<o+i+(v::vs).length
    ·rw[if_pos hin,if_pos (by simp at hin;omega)]
     obtain ⟨m,rfl⟩: ∃m,j=o+i+(m+1):=⟨j-(o+i)-1,by omega⟩
     rw[show o+i+(m+1)-(o+i)=m+1 by omega,show o+i+(m+1)-(o+(i+1))=m by omega]
     simp
    ·rw[if_neg hin,if_neg (by simp at hin;omega)]
theorem CellsR.write{e:En}{el:Nat}{sp:Bool}{c:Cs}{arr arr':Array Value}{fz:Nat × Nat}(h:CellsR σ w e el sp c arr fz){vs:List AV}{xs:List Value}(hx:concL σ vs=some xs){off m:Nat}
 (_hm1:c.n≤m) (hm2:m≤e.tot) (hm3: ∀i,i<m→i<c.n∨(off≤i∧i<off+vs.length)) (hsp:sp=false→m=c.n) (h':w'.heap[e.blk]? =some (.cells arr' el fz)) (hl:Laid arr arr' (e.base+off) xs):
 CellsR σ w' e el sp ⟨m,csetL vs off c.t⟩ arr' fz:=by
 have hlen:=concL_length hx
 refine ⟨h',hm2,by rw[hl.1];exact h.room,fun i hi=>?_,by rw[hl.1];exact h.thaw,fun hs=>?_⟩
 ·rw[hl.2,cget_csetL]
  by_cases hin:off≤i∧i<off+vs.length
  ·rw[if_pos hin,if_pos (by omega)]
   have hlt:i-off<vs.length:=by omega
   obtain ⟨y,y1,y2⟩:=concL_get (i-off) hx vs[i-off] (by simp[hlt])
   refine ⟨y,by rw[show e.base+i-(e.base+off)=i-off by omega];exact y1,?_⟩
   rw[List.getD_eq_getElem?_getD,List.getElem?_eq_getElem hlt];exact y2
  ·rw[if_neg hin,if_neg (by omega)]
   exact h.cell i ((hm3 i hi).resolve_right hin)
 ·obtain ⟨h1,h2,h3⟩:=h.whole hs
  have:=hsp hs
  exact ⟨h1,by rw[hl.1,h2];exact this.symm,by rw[h3];exact this.symm⟩
theorem Sim.put{P:Program}(h:Sim pr w0 σ H w){b:Nat}{e:En}(he:σ b=some e){el:Nat}{sp:Bool}{c:Cs}(hb:hget H b= .cells el sp c){vs:List AV}{xs:List Value}(hx:concL σ vs=some xs)(hs:lall scalar vs=true)
 {off m:Nat} (hm1:c.n≤m) (hm2:m≤e.tot) (hm3: ∀i,i<m→i<c.n∨(off≤i∧i<off+vs.length)) (hsp:sp=false→m=c.n) (hle:off+vs.length≤e.tot):
 ∃w',(storeCells ⟨e.blk,e.base+off,none⟩ xs).run P w= .ok () w'∧Sim pr w0 σ (hset H b (.cells el sp ⟨m,csetL vs off c.t⟩)) w'∧Grows σ H σ (hset H b (.cells el sp ⟨m,csetL vs off c.t⟩)):=by
 obtain ⟨arr,fz,hc⟩:=h.cells he hb
 have hlen:=concL_length hx
 obtain ⟨w',arr',h1,h2,h3,h4⟩:=run_storeCells_own (P:=P) e.blk (e.base+off) el fz xs 0 arr w hc.at_ (by have:=hc.room;omega) hc.thaw (scalars_one hs hx)
 have hr:=hc.write (w':=w') hx hm1 hm2 hm3 hsp h3 (by simpa using h4)
 obtain ⟨k1,k2⟩:=h.set he (by rw[hb];simp) (o:= .cells el sp ⟨m,csetL vs off c.t⟩) (by simp) h2 ⟨arr',fz,hr⟩ (fun id x hx hne hbr=>hbr.but' h2 (fun l cl=>by rw[hc.at_];simp) hne)
 exact ⟨w',h1,k1,k2⟩
end sim
section ops
variable {P:Program} {rs:Rs} {o:Oper} {R:Fr}
def OShows(P:Program)(rs:Rs)(o:Oper)(V:VB)(F:Fs):Prop:= ∀(R:Fr) (H:Hp) (k:KV),V.run F R H k=true→ ∃v H',k v H'=true∧OpSpec P rs o R H v H'
theorem OShows.fail{F:Fs}:OShows P rs o vfail F:=fun _ _ _ h=>(vfail_run h).elim
theorem PShows.acts{V:VB}{F:Fs}(h:PShows P rs o V):OShows P rs o V F:=fun R H k hk=>let ⟨v,h1,h2⟩:=h F R H k hk;⟨v,H,h1,h2.op H⟩
theorem RShows.acts{V:VB}{F:Fs}(h:RShows P rs o V):OShows P rs o V F:=fun R H k hk=>let ⟨_,v,_,h1,h2,_⟩:=h F R H k hk;⟨v,H,h1,h2.op⟩
theorem MShows.acts{V:VB}{F:Fs}(h:MShows P rs o V):OShows P rs o V F:=fun R H k hk=>let ⟨_,v,b,h0,hf,h1,h2⟩:=h F R H k hk;⟨v b,_,h1,h2.op h0 hf.ne⟩
theorem sStore{t:TypeId}{x y:Operand}{F:Fs}(ho:o.op= .store t x y):OShows P rs o (pStore P rs t x y) F:=fun R H k hk=>by
 have hx:x∈o.op.operands:=by rw[ho];simp[Op.operands]
 have hy:y∈o.op.operands:=by rw[ho];simp[Op.operands]
 unfold pStore at hk
 split at hk
 ·rename_i n hn
  obtain ⟨d,d',hd,hd',hk1⟩:=od2_true hk
  obtain ⟨b,off,h1,hk2⟩:=asPtr_true hk1
  obtain ⟨h2,hk3⟩:=chk_iff.1 hk2
  obtain ⟨h3,hk4⟩:=chk_iff.1 hk3
  obtain ⟨el,sp,c,h4,hk5⟩:=hcells_true hk4
  obtain ⟨h5,hk6⟩:=chk_iff.1 hk5
  have l1:(cellsOf (evd R d')).length=n:=by rw[←llen_eq];exact beq_iff.1 h2
  have l2:off+n≤c.n:=ble_iff.1 h5
  refine ⟨_,_,hk6,stays_set (by simp),fun r pr w0 σ a w hr hs=>?_⟩
  obtain ⟨e,e1,e2⟩:=one_ptr hr hx hd h1
  have hc:=conc_cells (hr y hy d' hd')
  obtain ⟨arr,fz,hcr⟩:=hs.cells e1 h4
  obtain ⟨w',k1,k2,k3⟩:=hs.put (P:=P) e1 h4 hc h3 (off:=off) (m:=c.n) (Nat.le_refl _) hcr.le (fun i hi=> .inl hi) (fun _=>rfl) (by have:=hcr.le;omega)
  have hsz:=concL_length hc
  refine opRun_skip (by intro c hc;rw[ho] at hc;cases hc) (w':=w') ?_ ⟨σ,k3,rfl,k2⟩
  have hne:(a.eval y).cells.size=n:=by simpa[l1] using hsz
  simp only[execOp,ho,Instr.storeAt,e2,Instr.sureAddr,Sem.run_bind,Sem.run_pure,Result.andThen_ok,storeVar,run_sizeOf' hn,hne]
  simp[k1]
 ·exact (vfail_run hk).elim
end ops
end Go.Ev
namespace Go.Ev
section maps
variable {σ:Sg}
theorem EntsR.append: ∀ {a b:List (AV × AV)} {l m:List MapEntry},EntsR σ a l→EntsR σ b m→EntsR σ (a++b) (l++m)
 |[],_,[],_,_,k=>k
 |[],_,_::_,_,h,_=>h.elim
 |_::_,_,[],_,h,_=>h.elim
 |_::_,_,_::_,_,h,k=>⟨h.1,EntsR.append h.2 k⟩
theorem EntsR.split: ∀ {l1:List (AV × AV)} {e:AV × AV} {l2:List (AV × AV)} {l:List MapEntry},EntsR σ (l1++e::l2) l→ ∃m1 x m2,l=m1++x::m2∧EntsR σ l1 m1∧EntR σ e x∧EntsR σ l2 m2
 |[],e,l2,[],h=>h.elim
 |[],e,l2,x::l,h=>⟨[],x,l,rfl,trivial,h.1,h.2⟩
 |a::l1,e,l2,[],h=>h.elim
 |a::l1,e,l2,y::l,h=>by
  obtain ⟨m1,x,m2,rfl,h1,h2,h3⟩:=EntsR.split h.2
  exact ⟨y::m1,x,m2,rfl,⟨h.1,h1⟩,h2,h3⟩
theorem mset_true{d:KEq}{key v:AV}: ∀ {es:List (AV × AV)} {k:List (AV × AV)→Bool},mset d key v es k=true→
 (∃l1 e l2,es=l1++e::l2∧d key e.1=some true∧k (l1++(e.1,v)::l2)=true)∨((∀a∈es,d key a.1=some false)∧k (es++[(key,v)])=true)
 |[],k,h=> .inr ⟨by simp,h⟩
 |e::r,k,h=>by
  have h':(optK (d key e.1) fun b=>bc b (k ((e.1,v)::r)) (mset d key v r fun r'=>k (e::r')))=true:=h
  obtain ⟨b,hb,h1⟩:=optK_true h'
  cases b with
  |true=>exact .inl ⟨[],e,r,rfl,hb,h1⟩
  |false=>
   rcases mset_true (es:=r) h1 with ⟨l1,x,l2,rfl,h2,h3⟩|⟨h2,h3⟩
   ·exact .inl ⟨e::l1,x,l2,rfl,h2,h3⟩
   ·refine .inr ⟨fun a ha=>?_,h3⟩
    rcases List.mem_cons.1 ha with rfl|ha
    ·exact hb
    ·exact h2 a ha
theorem EntsR.size: ∀ {es:List (AV × AV)} {l:List MapEntry},EntsR σ es l→es.length=l.length:=fun h=>EntsR.length h
theorem MapR.modify{l1:List (AV × AV)}{e:AV × AV}{l2:List (AV × AV)}{l:List MapEntry}{cl:Nat}(h:MapR σ (l1++e::l2) l cl){i:Nat}{x y:MapEntry}(hi:l[i]? =some x){v:AV}
 (hk:conc σ e.1=some x.key) (hy1:y.key=x.key) (hy2:y.born=x.born) (hv:conc σ v=some y.val):MapR σ (l1++(e.1,v)::l2) (l.set i y) cl∧i=l1.length:=by
 obtain ⟨m1,x',m2,hl,q1,q2,q3⟩:=h.ents.split
 have hm1:m1.length=l1.length:=(EntsR.length q1).symm
 have hx':l[m1.length]? =some x':=by rw[hl];simp
 have hkey:x'.key=x.key:=by rw[q2.1] at hk;exact Option.some.inj hk
 have hij:i=m1.length:=by
  have hlt:i<(l.map (·.key)).length:=by have:=(List.getElem?_eq_some_iff.1 hi).1;simpa using this
  refine (List.getElem?_inj hlt h.keys).1 ?_
  rw[List.getElem?_map,List.getElem?_map,hi,hx']
  simp[hkey]
 subst hij
 rw[hx'] at hi;obtain rfl:=Option.some.inj hi
 have hset:l.set m1.length y=m1++y::m2:=by rw[hl];simp
 refine ⟨⟨?_,?_,fun j z hz=>?_,by rw[List.length_set];exact h.clk⟩,hm1⟩
 ·rw[hset];exact q1.append ⟨⟨by rw[hy1];exact q2.1,hv⟩,q3⟩
 ·have:(l.set m1.length y).map (·.key)=l.map (·.key):=by rw[hset,hl];simp[hy1]
  rw[this];exact h.keys
 ·by_cases hj:j=m1.length
  ·subst hj
   rw[hset] at hz;simp at hz;subst hz
   rw[hy2];exact h.num _ _ hx'
  ·rw[List.getElem?_set_ne (Ne.symm hj)] at hz
   exact h.num j z hz
theorem MapR.push{es:List (AV × AV)}{l:List MapEntry}{cl:Nat}(h:MapR σ es l cl){key v:AV}{K V:Value}(hK:conc σ key=some K)(hV:conc σ v=some V)(hn: ∀e∈l,e.key≠K):
 MapR σ (es++[(key,v)]) (l++[⟨K,V,cl⟩]) (cl+1):=by
 refine ⟨h.ents.append ⟨⟨hK,hV⟩,trivial⟩,?_,fun j z hz=>?_,by simp[h.clk]⟩
 ·rw[List.map_append,List.nodup_append]
  refine ⟨h.keys,by simp,fun a ha b hb=>?_⟩
  obtain ⟨e,e1,rfl⟩:=List.mem_map.1 ha
  simp at hb;subst hb
  exact hn e e1
 ·rw[List.getElem?_append] at hz
  split at hz
  ·exact h.num j z hz
  ·rename_i hj
   have hjl:j-l.length=0:=by
    have:=(List.getElem?_eq_some_iff.1 hz).1
    simp at this;omega
   rw[hjl] at hz;simp at hz;subst hz
   show cl=j
   rw[h.clk];omega
end maps
section ops
variable {P:Program} {rs:Rs} {o:Oper} {R:Fr}
theorem but_setObj(w:World)(b:Nat)(x:Obj):But b w {w with heap:=w.heap.setIfInBounds b x}:=
 ⟨rfl,rfl,rfl,by simp,fun k hk=>by simp[Array.getElem?_setIfInBounds_ne (Ne.symm hk)]⟩
theorem sMapU{t:TypeId}{m i v:Operand}{F:Fs}(ho:o.op= .mapUpdate t m i v∨o.op= .insert t m i v):OShows P rs o (pMapU P rs t m i v) F:=fun R H k hk=>by
 have hm:m∈o.op.operands:=by rcases ho with ho|ho <;> rw[ho] <;> simp[Op.operands]
 have hi:i∈o.op.operands:=by rcases ho with ho|ho <;> rw[ho] <;> simp[Op.operands]
 have hv:v∈o.op.operands:=by rcases ho with ho|ho <;> rw[ho] <;> simp[Op.operands]
 have hnd: ∀c,o.op≠ .defer c:=by intro c hc;rcases ho with ho|ho <;> rw[ho] at hc <;> cases hc
 have hex: ∀a:Act,execOp a.eval o=(do Instr.mapUpdate t (a.eval m) (a.eval i) (a.eval v);pure .skip):=fun a=>by rcases ho with ho|ho <;> simp only[execOp,ho]
 unfold pMapU at hk
 split at hk
 ·rename_i kt e hu
  unfold pMapU2 at hk
  split at hk
  ·rename_i d hd
   obtain ⟨dm,di,dv,hdm,hdi,hdv,hk0⟩:=od3_true hk
   obtain ⟨hself,hk1⟩:=chk_iff.1 hk0
   obtain ⟨bs,hbs⟩:=self_true hself
   rcases asMap_true hk1 with ⟨h1,hk2⟩|⟨b,h1,hk2⟩
   ·cases hk2
   ·obtain ⟨es,h2,hk3⟩:=hmap_true hk2
    obtain ⟨h3,hk4⟩:=chk_iff.1 hk3
    have hf:=fits_all h3
    rcases mset_true hk4 with ⟨l1,p,l2,rfl,p1,p2⟩|⟨p1,p2⟩
    ·refine ⟨_,_,p2,stays_set (by simp),fun r pr w0 σ a w hr hs=>?_⟩
     have e1:=hr m hm dm hdm
     rw[h1] at e1;obtain ⟨en,e2,e3⟩:=conc_mp e1
     have hK:=hr i hi di hdi
     have hV:=hr v hv dv hdv
     obtain ⟨l,cl,m1,m2⟩:=hs.map e2 h2
     obtain ⟨rr,f1,f2⟩:=run_findKey (P:=P) hd hK m2.u hf
     obtain ⟨y,y1,y2⟩:=m2.u.right p (by simp)
     obtain ⟨s3,_⟩:=same_key (P:=P) hd p1 hK y2.1
     have hyk:y.key=a.eval i:=(s3.1 rfl).symm
     rcases f2 with ⟨j,x,rfl,g2,g3⟩|⟨_,g2⟩
     ·have hxy:x=y:=nodup_inj m2.keys x (List.mem_of_getElem? g2) y y1 (g3.trans hyk.symm)
      subst hxy
      have hbits:Instr.sameBits 10000 (a.eval i) (a.eval i)=true:=key_bits hd hbs hK 9999
      have g2':l[j]? =some x:=by simpa using g2
      have hjl:j<l.size:=getElem?_lt g2'
      let y':MapEntry:= {x with key:=a.eval i,val:=a.eval v}
      have hmod:(l.modify j fun e=> {e with key:=a.eval i,val:=a.eval v}).toList=l.toList.set j y':=by
       apply List.ext_getElem?
       intro q
       simp only[Array.getElem?_toList,Array.getElem?_modify,List.getElem?_set]
       by_cases hq:j=q
       ·subst hq
        rw[if_pos rfl,if_pos rfl,g2',if_pos (by simpa using hjl)]
        rfl
       ·simp[hq]
      have hmr:=(m2.modify (i:=j) (y:=y') g2 (v:=evd R dv) (by rw[y2.1]) g3.symm rfl hV).1
      rw[←hmod] at hmr
      have hbut:=but_setObj w en.blk (.map (l.modify j fun e=> {e with key:=a.eval i,val:=a.eval v}) cl)
      have hat:({w with heap:=w.heap.setIfInBounds en.blk (.map (l.modify j fun e=> {e with key:=a.eval i,val:=a.eval v}) cl)}:World).heap[en.blk]? =some (.map (l.modify j fun e=> {e with key:=a.eval i,val:=a.eval v}) cl):=by
       simp[getElem?_lt m1]
      obtain ⟨k1,k2⟩:=hs.set e2 (by rw[h2];simp) (o:= .map (l1++(p.1,evd R dv)::l2)) (by simp) hbut ⟨_,_,hat,hmr⟩ (fun id z hz hne hbr=>hbr.butMap hbut m1 hat (Nat.le_refl _) (fun z hz=>by
       obtain ⟨q,hq2⟩:=List.mem_iff_getElem?.1 hz
       by_cases hqj:q=j
       ·subst hqj
        rw[hmod]
        refine ⟨y',List.mem_iff_getElem?.2 ⟨q,by simp[hjl]⟩,?_⟩
        rw[g2] at hq2;obtain rfl:=Option.some.inj hq2;rfl
       ·exact ⟨z,List.mem_iff_getElem?.2 ⟨q,by rw[hmod,List.getElem?_set_ne (Ne.symm hqj)];exact hq2⟩,rfl⟩) hne)
      refine opRun_skip hnd (w':=_) ?_ ⟨σ,k2,rfl,k1⟩
      rw[hex]
      have hck:(Instr.checkKey false 10000 kt (a.eval i)).run P w= .ok () w:=run_checkKey hd hbs hK _ 9998 _
      simp only[Instr.mapUpdate,e3]
      simp[run_und hu,MapKept.run_getObj_map m1,hck,f1,g2',g3,Instr.keyThatStays,hbits,MapKept.run_setObj_map _ m1]
     ·exact absurd hyk (g2 y y1)
    ·refine ⟨_,_,p2,stays_set (by simp),fun r pr w0 σ a w hr hs=>?_⟩
     have e1:=hr m hm dm hdm
     rw[h1] at e1;obtain ⟨en,e2,e3⟩:=conc_mp e1
     have hK:=hr i hi di hdi
     have hV:=hr v hv dv hdv
     obtain ⟨l,cl,m1,m2⟩:=hs.map e2 h2
     obtain ⟨rr,f1,f2⟩:=run_findKey (P:=P) hd hK m2.u hf
     rcases f2 with ⟨j,x,_,g2,g3⟩|⟨rfl,g2⟩
     ·obtain ⟨q,q1,q2⟩:=m2.u.left x (List.mem_of_getElem? g2)
      obtain ⟨s3,_⟩:=same_key (P:=P) hd (p1 q q1) hK q2.1
      exact absurd (s3.2 g3.symm) (by simp)
     ·have hmr:=m2.push hK hV g2
      have hpl:(l.push ⟨a.eval i,a.eval v,cl⟩).toList=l.toList++[⟨a.eval i,a.eval v,cl⟩]:=by simp
      rw[←hpl] at hmr
      have hbut:=but_setObj w en.blk (.map (l.push ⟨a.eval i,a.eval v,cl⟩) (cl+1))
      have hat:({w with heap:=w.heap.setIfInBounds en.blk (.map (l.push ⟨a.eval i,a.eval v,cl⟩) (cl+1))}:World).heap[en.blk]? =some (.map (l.push ⟨a.eval i,a.eval v,cl⟩) (cl+1)):=by
       simp[getElem?_lt m1]
      obtain ⟨k1,k2⟩:=hs.set e2 (by rw[h2];simp) (o:= .map (es++[(evd R di,evd R dv)])) (by simp) hbut ⟨_,_,hat,hmr⟩ (fun id z hz hne hbr=>hbr.butMap hbut m1 hat (by omega) (fun z hz=>⟨z,by rw[hpl];exact List.mem_append_left _ hz,rfl⟩) hne)
      refine opRun_skip hnd (w':=_) ?_ ⟨σ,k2,rfl,k1⟩
      rw[hex]
      have hck:(Instr.checkKey false 10000 kt (a.eval i)).run P w= .ok () w:=run_checkKey hd hbs hK _ 9998 _
      simp only[Instr.mapUpdate,e3]
      simp[run_und hu,MapKept.run_getObj_map m1,hck,f1,MapKept.run_setObj_map _ m1]
  ·exact (vfail_run hk).elim
 ·exact (vfail_run hk).elim
theorem mfindI_true{d:KEq}{key:AV}: ∀ {es:List (AV × AV)} {i:Nat} {kf:AV→Nat→Bool} {kn:Nat→Bool},mfindI d key es i kf kn=true→
 (∃l1 e l2,es=l1++e::l2∧d key e.1=some true∧kf e.2 (i+l1.length)=true)∨((∀a∈es,d key a.1=some false)∧kn (i+es.length)=true)
 |[],i,kf,kn,h=> .inr ⟨by simp,h⟩
 |e::r,i,kf,kn,h=>by
  have h':(optK (d key e.1) fun b=>bc b (kf e.2 i) (mfindI d key r (Nat.add i 1) kf kn))=true:=h
  obtain ⟨b,hb,h1⟩:=optK_true h'
  cases b with
  |true=>exact .inl ⟨[],e,r,rfl,hb,h1⟩
  |false=>
   rcases mfindI_true (es:=r) h1 with ⟨l1,x,l2,rfl,h2,h3⟩|⟨h2,h3⟩
   ·refine .inl ⟨e::l1,x,l2,rfl,h2,?_⟩
    rw[List.length_cons,show i+(l1.length+1)=Nat.add i 1+l1.length by show _=i+1+_;omega];exact h3
   ·refine .inr ⟨fun a ha=>?_,?_⟩
    ·rcases List.mem_cons.1 ha with rfl|ha
     ·exact hb
     ·exact h2 a ha
    ·rw[List.length_cons,show i+(r.length+1)=Nat.add i 1+r.length by show _=i+1+_;omega];exact h3
theorem set_same{w:World}{b:Nat}{x:Obj}(h:w.heap[b]? =some x):({w with heap:=w.heap.setIfInBounds b x}:World)=w:=by
 have:w.heap.setIfInBounds b x=w.heap:=by
  apply Array.ext_getElem?
  intro i
  rw[Array.getElem?_setIfInBounds]
  split
  ·rename_i hi;subst hi;rw[if_pos (getElem?_lt h),h]
  ·rfl
 rw[this]
theorem sMapE{t:TypeId}{m i:Operand}{F:Fs}(ho:o.op= .mapEntry t m i):OShows P rs o (pMapE P rs t m i) F:=fun R H k hk=>by
 have hm:m∈o.op.operands:=by rw[ho];simp[Op.operands]
 have hi:i∈o.op.operands:=by rw[ho];simp[Op.operands]
 have hnd: ∀c,o.op≠ .defer c:=by intro c hc;rw[ho] at hc;cases hc
 unfold pMapE at hk
 split at hk
 ·rename_i kt e hu
  unfold pMapE2 at hk
  split at hk
  ·rename_i d z hd hz
   obtain ⟨dm,di,hdm,hdi,hk0⟩:=od2_true hk
   obtain ⟨hself,hk1⟩:=chk_iff.1 hk0
   obtain ⟨bs,hbs⟩:=self_true hself
   obtain ⟨zv,hz1,hz2⟩:=zAV_some hz
   rcases asMap_true hk1 with ⟨h1,hk2⟩|⟨b,h1,hk2⟩
   ·cases hk2
   ·obtain ⟨es,h2,hk3⟩:=hmap_true hk2
    obtain ⟨h3,hk4⟩:=chk_iff.1 hk3
    have hf:=fits_all h3
    rcases mfindI_true hk4 with ⟨l1,p,l2,rfl,p1,p2⟩|⟨p1,p2⟩
    ·refine ⟨_,_,p2,Stays.refl H,fun r pr w0 σ a w hr hs=>?_⟩
     have e1:=hr m hm dm hdm
     rw[h1] at e1;obtain ⟨en,e2,e3⟩:=conc_mp e1
     have hK:=hr i hi di hdi
     obtain ⟨l,cl,m1,m2⟩:=hs.map e2 h2
     obtain ⟨rr,f1,f2⟩:=run_findKey (P:=P) hd hK m2.u hf
     obtain ⟨y,y1,y2⟩:=m2.u.right p (by simp)
     obtain ⟨s3,_⟩:=same_key (P:=P) hd p1 hK y2.1
     have hyk:y.key=a.eval i:=(s3.1 rfl).symm
     rcases f2 with ⟨j,x,rfl,g2,g3⟩|⟨_,g2⟩
     ·have hxy:x=y:=nodup_inj m2.keys x (List.mem_of_getElem? g2) y y1 (g3.trans hyk.symm)
      subst hxy
      have hbits:Instr.sameBits 10000 (a.eval i) (a.eval i)=true:=key_bits hd hbs hK 9999
      have g2':l[j]? =some x:=by simpa using g2
      have hj:=(m2.modify (i:=j) (y:=x) g2 (v:=p.2) y2.1 rfl rfl y2.2).2
      have hmod:(l.modify j fun e=> {e with key:=a.eval i})=l:=by
       apply Array.ext_getElem?
       intro q
       rw[Array.getElem?_modify]
       split
       ·rename_i hq;subst hq
        rw[g2']
        simp[←g3]
       ·rfl
      have hborn:x.born=j:=m2.num j x g2
      refine opRun_value hnd (x:= .tuple #[x.val,goInt j]) (w':=w) ?_ ⟨σ,Grows.refl σ H,?_,hs⟩
      ·have hck:(Instr.checkKey false 10000 kt (a.eval i)).run P w= .ok () w:=run_checkKey hd hbs hK _ 9998 _
       simp only[execOp,ho,Instr.mapEntry,e3]
       simp[run_und hu,MapKept.run_getObj_map m1,hck,f1,g2',g3,Instr.keyThatStays,hbits,MapKept.run_setObj_map _ m1,hmod,set_same m1,hborn]
      ·simp only[conc]
       rw[concL_cons.2 ⟨x.val,_,rfl,y2.2,concL_cons.2 ⟨goInt j,[],rfl,by rw[hj];simp[conc,goInt],rfl⟩⟩];rfl
     ·exact absurd hyk (g2 y y1)
    ·refine ⟨_,_,p2,stays_set (by simp),fun r pr w0 σ a w hr hs=>?_⟩
     have e1:=hr m hm dm hdm
     rw[h1] at e1;obtain ⟨en,e2,e3⟩:=conc_mp e1
     have hK:=hr i hi di hdi
     obtain ⟨l,cl,m1,m2⟩:=hs.map e2 h2
     obtain ⟨rr,f1,f2⟩:=run_findKey (P:=P) hd hK m2.u hf
     rcases f2 with ⟨j,x,_,g2,g3⟩|⟨rfl,g2⟩
     ·obtain ⟨q,q1,q2⟩:=m2.u.left x (List.mem_of_getElem? g2)
      obtain ⟨s3,_⟩:=same_key (P:=P) hd (p1 q q1) hK q2.1
      exact absurd (s3.2 g3.symm) (by simp)
     ·have hmr:=m2.push hK (hz2 σ) g2
      have hpl:(l.push ⟨a.eval i,zv,cl⟩).toList=l.toList++[⟨a.eval i,zv,cl⟩]:=by simp
      rw[←hpl] at hmr
      have hbut:=but_setObj w en.blk (.map (l.push ⟨a.eval i,zv,cl⟩) (cl+1))
      have hat:({w with heap:=w.heap.setIfInBounds en.blk (.map (l.push ⟨a.eval i,zv,cl⟩) (cl+1))}:World).heap[en.blk]? =some (.map (l.push ⟨a.eval i,zv,cl⟩) (cl+1)):=by
       simp[getElem?_lt m1]
      have hcl:cl=es.length:=by rw[m2.clk,m2.u.length]
      rw[lapp_eq]
      obtain ⟨k1,k2⟩:=hs.set e2 (by rw[h2];simp) (o:= .map (es++[(evd R di,z)])) (by simp) hbut ⟨_,_,hat,hmr⟩ (fun id z hz hne hbr=>hbr.butMap hbut m1 hat (by omega) (fun z hz=>⟨z,by rw[hpl];exact List.mem_append_left _ hz,rfl⟩) hne)
      refine opRun_value hnd (x:= .tuple #[zv,goInt cl]) ?_ ⟨σ,k2,?_,k1⟩
      ·have hck:(Instr.checkKey false 10000 kt (a.eval i)).run P w= .ok () w:=run_checkKey hd hbs hK _ 9998 _
       simp only[execOp,ho,Instr.mapEntry,e3]
       simp[run_und hu,MapKept.run_getObj_map m1,hck,f1,hz1,MapKept.run_setObj_map _ m1]
      ·simp only[conc]
       rw[concL_cons.2 ⟨zv,_,rfl,hz2 σ,concL_cons.2 ⟨goInt cl,[],rfl,by rw[hcl];simp[conc,goInt],rfl⟩⟩];rfl
  ·exact (vfail_run hk).elim
 ·exact (vfail_run hk).elim
theorem lsetV_at(v:AV): ∀(l1:List (AV × AV)) (e:AV × AV) (l2:List (AV × AV)),lsetV v (l1++e::l2) l1.length=l1++(e.1,v)::l2
 |[],e,l2=>rfl
 |a::l1,e,l2=>by
  show a::lsetV v (l1++e::l2) l1.length=_
  rw[lsetV_at v l1 e l2];rfl
theorem sEntS{t:TypeId}{m s v:Operand}{F:Fs}(ho:o.op= .entryStore t m s v):OShows P rs o (pEntS rs t m s v) F:=fun R H k hk=>by
 have hm:m∈o.op.operands:=by rw[ho];simp[Op.operands]
 have hs':s∈o.op.operands:=by rw[ho];simp[Op.operands]
 have hv:v∈o.op.operands:=by rw[ho];simp[Op.operands]
 have hnd: ∀c,o.op≠ .defer c:=by intro c hc;rw[ho] at hc;cases hc
 obtain ⟨dm,dst,dv,hdm,hds,hdv,hk1⟩:=od3_true hk
 rcases asMap_true hk1 with ⟨h1,hk2⟩|⟨b,h1,hk2⟩
 ·cases hk2
 ·obtain ⟨j,n,h2,hk3⟩:=ix_true hk2
  obtain ⟨es,h3,hk4⟩:=hmap_true hk3
  obtain ⟨c1,hk5⟩:=chk_iff.1 hk4
  have c1':n<es.length:=by have:=blt_iff.1 c1;rwa [llen_eq] at this
  obtain ⟨l1,p,l2,rfl,hn⟩: ∃l1 p l2,es=l1++p::l2∧l1.length=n:=⟨es.take n,es[n],es.drop (n+1),by simp,by simp;omega⟩
  subst hn
  rw[lsetV_at] at hk5
  refine ⟨_,_,hk5,stays_set (by simp),fun r pr w0 σ a w hr hs=>?_⟩
  have e1:=hr m hm dm hdm
  rw[h1] at e1;obtain ⟨en,e2,e3⟩:=conc_mp e1
  have hst:=one_int hr hs' hds h2
  have hV:=hr v hv dv hdv
  obtain ⟨l,cl,m1,m2⟩:=hs.map e2 h3
  have hlen:l1.length<l.toList.length:=by have:=m2.u.length;simp at this ⊢;omega
  obtain ⟨m1',x,m2',hl,q1,q2,q3⟩:=m2.ents.split
  have hm1:m1'.length=l1.length:=(EntsR.length q1).symm
  have hx:l.toList[l1.length]? =some x:=by rw[hl, ←hm1];simp
  have hx':l[l1.length]? =some x:=by simpa using hx
  have hjl:l1.length<l.size:=getElem?_lt hx'
  let y':MapEntry:= {x with val:=a.eval v}
  have hmod:(l.modify l1.length fun e=> {e with val:=a.eval v}).toList=l.toList.set l1.length y':=by
   apply List.ext_getElem?
   intro q
   simp only[Array.getElem?_toList,Array.getElem?_modify,List.getElem?_set]
   by_cases hq:l1.length=q
   ·subst hq
    rw[if_pos rfl,if_pos rfl,hx',if_pos (by simpa using hjl)]
    rfl
   ·simp[hq]
  have hmr:=(m2.modify (i:=l1.length) (y:=y') hx (v:=evd R dv) q2.1 rfl rfl hV).1
  rw[←hmod] at hmr
  have hfind:l.findIdx? (fun e=>(e.born:Int)==((l1.length:Nat):Int))=some l1.length:=by
   rw[Array.findIdx?_eq_some_iff_getElem]
   refine ⟨hjl,?_,fun j hj=>?_⟩
   ·have:=m2.num l1.length x hx
    have hg:l[l1.length]=x:=(Array.getElem?_eq_some_iff.1 hx').2
    simp[hg,this]
   ·have hjs:j<l.size:=by omega
    have:=m2.num j l[j] (by simp[hjs])
    simp[this];omega
  have hbut:=but_setObj w en.blk (.map (l.modify l1.length fun e=> {e with val:=a.eval v}) cl)
  have hat:({w with heap:=w.heap.setIfInBounds en.blk (.map (l.modify l1.length fun e=> {e with val:=a.eval v}) cl)}:World).heap[en.blk]? =some (.map (l.modify l1.length fun e=> {e with val:=a.eval v}) cl):=by
   simp[getElem?_lt m1]
  obtain ⟨k1,k2⟩:=hs.set e2 (by rw[h3];simp) (o:= .map (l1++(p.1,evd R dv)::l2)) (by simp) hbut ⟨_,_,hat,hmr⟩ (fun id z hz hne hbr=>hbr.butMap hbut m1 hat (Nat.le_refl _) (fun z hz=>by
   obtain ⟨q,hq2⟩:=List.mem_iff_getElem?.1 hz
   by_cases hqj:q=l1.length
   ·subst hqj
    rw[hmod]
    refine ⟨y',List.mem_iff_getElem?.2 ⟨l1.length,by simp[hjl]⟩,?_⟩
    rw[hx] at hq2;obtain rfl:=Option.some.inj hq2;rfl
   ·exact ⟨z,List.mem_iff_getElem?.2 ⟨q,by rw[hmod,List.getElem?_set_ne (Ne.symm hqj)];exact hq2⟩,rfl⟩) hne)
  refine opRun_skip hnd (w':=_) ?_ ⟨σ,k2,rfl,k1⟩
  simp only[execOp,ho,Instr.entryStore,e3,hst]
  simp[MapKept.run_getObj_map m1,Go.asInt,asIntOf,hfind,MapKept.run_setObj_map _ m1]
end ops
end Go.Ev
namespace Go.Ev
section runs
variable {P:Program}
inductive AppSrc (P:Program) (e:TypeId) (i:TypeInfo) (d:TypeDesc) (x:Value) (w:World) (n:Nat) (xs:List Value):Prop
 |cells (hd:(∃e',d= .slice e')∨d= .string) (hlen:Builtin.lenOf x=pure n) (hf: ∀w',w'.heap=w.heap→(Builtin.firstCells i.size n x).run P w'= .ok xs.toArray w')
 |zeros {j j':IntKind} {z:Value} (hd:d= .int j) (hx:x= .int j' n) (hn:n*(i.bytes+1)≤1099511627776) (hz:i.zero=some z) (hi:P.info? e=some i) (hs:z.cells.size=i.size) (hxs:xs=(List.replicate n z.cells.toList).flatten)
theorem zeroCells_eq(z:Array Value)(n:Nat):Builtin.zeroCells z n=(List.replicate n z.toList).flatten.toArray:=by
 have:=rep_cells z n
 simpa[madeCells,Builtin.zeroCells] using this
theorem zeros_num{n b:Nat}(h:n*(b+1)≤1099511627776):IntKind.i64.wrap (n:Int)=n∧ ¬((n:Int)<0)∧ ¬(281474976710656<(n:Int)*(b:Int)):=by
 have h1:n*1≤n*(b+1):=Nat.mul_le_mul_left _ (by omega)
 have h2:n*b≤n*(b+1):=Nat.mul_le_mul_left _ (by omega)
 have h3:((n*b:Nat):Int)≤1099511627776:=by omega
 rw[Int.natCast_mul] at h3
 refine ⟨?_,by omega,by omega⟩
 unfold IntKind.wrap
 simp[IntKind.bits,IntKind.signed]
 omega
theorem zeros_nil{z:Value}{n s:Nat}(hs:z.cells.size=s)(h:n*s=0):(List.replicate n z.cells.toList).flatten=[]:=by
 have:(List.replicate n z.cells.toList).flatten.length=0:=by simp[hs,h]
 exact List.length_eq_zero_iff.1 this
theorem run_app_fits{t u ty e:TypeId}{i:TypeInfo}{d:TypeDesc}(ht:P.underlying t=some (.slice e))(hu:P.underlying u=some d)(hi:P.info? e=some i){w w':World}{n:Nat}{xs:List Value}{x:Value}
 (hx:AppSrc P e i d x w n xs) {a:Addr} {sLen sCap:Nat} (hfit:sLen+n≤sCap) (hst:(storeCells (a.add (sLen*i.size)) xs).run P w= .ok () w'):
 (Builtin.append_ #[t,u] ty #[.slice (some a) sLen sCap,x]).run P w= .ok (.slice (some a) (sLen+n) sCap) w':=by
 cases hx with
 |cells hd hlen hf=>
  have h2:=hf w rfl
  rcases hd with ⟨e',rfl⟩|rfl
  all_goals simp[Builtin.append_,run_underlying ht,run_underlying hu,sizeOf,typeInfo,hi,hlen,h2,hfit,hst]
 | @zeros j j' z hd hx hn hz hi' hs hxs=>
   subst hd hx hxs
   obtain ⟨w1,w2,w3⟩:=zeros_num hn
   have zc:=zeroCells_eq z.cells n
   by_cases h0:n*i.size=0
   ·have he:=zeros_nil hs h0
    rw[he] at hst
    simp[Builtin.append_,run_underlying ht,run_underlying hu,sizeOf,typeInfo,hi,Go.asInt,asIntOf,w1,w2,w3,h0,hfit,hst]
   ·simp[Builtin.append_,run_underlying ht,run_underlying hu,sizeOf,typeInfo,zeroValue,hi,hz,Go.asInt,asIntOf,w1,w2,w3,h0,hfit,zc,hst]
theorem run_app_grows{t u ty e:TypeId}{i:TypeInfo}{d:TypeDesc}(ht:P.underlying t=some (.slice e))(hu:P.underlying u=some d)(hi:P.info? e=some i){z:Value}(hz:i.zero=some z){w:World}{n:Nat}{xs olds:List Value}{x:Value}
 (hx:AppSrc P e i d x w n xs) {base:Option Addr} {sLen sCap:Nat} (hold: ∀w',w'.heap=w.heap→(Builtin.firstCells i.size sLen (.slice base sLen sCap)).run P w'= .ok olds.toArray w')
 (hg:sCap<sLen+n) (hneed:(sLen+n)*(i.bytes+1)≤1099511627776):
 ∃c w',sLen+n≤c∧(Builtin.append_ #[t,u] ty #[.slice base sLen sCap,x]).run P w= .ok (.slice (some ⟨w.heap.size,0,none⟩) (sLen+n) c) w'∧More w w'∧
  w'.heap[w.heap.size]? =some (.cells (olds++xs++(List.replicate (c-(sLen+n)) z.cells.toList).flatten).toArray e):=by
 have hq:sLen+n≤grownCap w (sLen+n) sCap e:=by simp[grownCap,Question.cut]
 have hb1:(sLen+n)*i.bytes≤140737488355328:=by
  have:(sLen+n)*i.bytes≤(sLen+n)*(i.bytes+1):=Nat.mul_le_mul_left _ (by omega)
  omega
 have hb2:sLen+n≤1099511627776:=by
  have:(sLen+n)*1≤(sLen+n)*(i.bytes+1):=Nat.mul_le_mul_left _ (by omega)
  omega
 have hfitc:=growslice_fits hg hb1
 have h48: ¬(281474976710656<Builtin.nextslicecap (sLen+n) sCap*i.bytes):=by omega
 have h63: ¬(9223372036854775807<((sLen:Int)+(n:Int))):=by omega
 have hng: ¬(sLen+n≤sCap):=by omega
 refine ⟨grownCap w (sLen+n) sCap e,w.drew.alloc (.cells (olds++xs++(List.replicate (grownCap w (sLen+n) sCap e-(sLen+n)) z.cells.toList).flatten).toArray e),hq,?_,⟨rfl,rfl,rfl,?_,fun k hk=>?_⟩,?_⟩
 rotate_left
 ·show w.heap.size≤(w.heap.push _).size;simp
 ·show (w.heap.push _)[k]? =w.heap[k]?
  rw[Array.getElem?_push,if_neg (by omega)]
 ·show (w.heap.push _)[w.heap.size]? =_
  simp
 have ho:=hold w.drew rfl
 have zc:=zeroCells_eq z.cells (grownCap w (sLen+n) sCap e-(sLen+n))
 unfold grownCap at zc ⊢
 cases hx with
 |cells hd hlen hf=>
  have h2:=hf w.drew rfl
  rcases hd with ⟨e',rfl⟩|rfl
  all_goals
   simp[Builtin.append_,run_underlying ht,run_underlying hu,sizeOf,typeInfo,zeroValue,hi,hz,hlen,hng,h63,h48,Question.forced,ho,h2,newRow,zc]
 | @zeros j j' z' hd hx hn hz' hi' hs hxs=>
   rw[hz] at hz';obtain rfl:=Option.some.inj hz'
   subst hd hx hxs
   obtain ⟨w1,w2,w3⟩:=zeros_num hn
   have zc2:=zeroCells_eq z.cells n
   by_cases h0:n*i.size=0
   ·have he:=zeros_nil hs h0
    rw[he] at zc2 ⊢
    simp[Builtin.append_,run_underlying ht,run_underlying hu,sizeOf,typeInfo,zeroValue,hi,hz,Go.asInt,asIntOf,w1,w2,w3,h0,hng,h63,h48,Question.forced,ho,newRow,zc]
   ·simp[Builtin.append_,run_underlying ht,run_underlying hu,sizeOf,typeInfo,zeroValue,hi,hz,Go.asInt,asIntOf,w1,w2,w3,h0,hng,h63,h48,Question.forced,ho,newRow,zc,zc2]
end runs
end Go.Ev
namespace Go.Ev
section sim
variable {pr:Nat→Prop} {w0 w w':World} {σ:Sg} {H:Hp}
theorem Sim.rename(h:Sim pr w0 σ H w){b b':Nat}{e e':En}(he:σ b=some e)(hnd:hget H b≠ .dead)(hb':hget H b'= .free)(hblk:e'.blk=e.blk)(m:But e.blk w w')(hm: ∀l c,w.heap[e.blk]? ≠some (.map l c))
 {o:AO} (hr:BR (σ.put b' e') w' e' o):Sim pr w0 (σ.put b' e') (hallocK (hset H b .dead) o b') w'∧Grows σ H (σ.put b' e') (hallocK (hset H b .dead) o b'):=by
 have hs:σ b'=none:=h.fresh hb'
 have hne:b≠b':=fun x=>by subst x;rw[he] at hs;cases hs
 have hle:=Sg.le_put σ e' hs
 have g1:hget (hallocK (hset H b .dead) o b') b'=o:=hget_alloc_self _ _ _
 have g2:hget (hallocK (hset H b .dead) o b') b= .dead:=by rw[hget_alloc_ne _ _ hne,hget_hset_self]
 have g3: ∀id,id≠b→id≠b'→hget (hallocK (hset H b .dead) o b') id=hget H id:=fun id h1 h2=>by rw[hget_alloc_ne _ _ h2,hget_hset_ne _ _ h1]
 have hof:o≠ .free:=fun ho=>by rw[ho] at hr;exact hr
 refine ⟨⟨by rw[m.size];exact h.size,m.os.trans h.os,m.tape.trans h.tape,m.output.trans h.output,h.glob,fun k hk=>?_,fun id x hx=>?_,fun id x hx=>?_,fun i j x y hx hy di dj hij=>?_⟩,⟨hle,fun id hid hf=>?_,fun id hf=>?_⟩⟩
 ·obtain ⟨h1,h2⟩:=h.prot k hk
  exact ⟨h1,(m.same k (fun e'=>(h.lies b e he).2 (e'▸hk))).trans h2⟩
 ·by_cases h1:id=b'
  ·subst h1;rw[Sg.put_self] at hx;obtain rfl:=Option.some.inj hx;rw[g1];exact hr
  ·rw[Sg.put_ne σ e' h1] at hx
   by_cases h2:id=b
   ·subst h2;rw[g2];trivial
   ·rw[g3 id h2 h1]
    exact ((h.dom id x hx).but' m hm (fun hd=>h.inj id b x e hx he hd hnd h2)).mono hle
 ·by_cases h1:id=b'
  ·subst h1;rw[Sg.put_self] at hx;obtain rfl:=Option.some.inj hx;rw[m.size,hblk];exact h.lies b e he
  ·rw[Sg.put_ne σ e' h1] at hx;rw[m.size];exact h.lies id x hx
 ·have liv: ∀k,k≠b'→hget (hallocK (hset H b .dead) o b') k≠ .dead→k≠b∧hget H k≠ .dead:=fun k h1 hk=>by
   by_cases h2:k=b
   ·subst h2;exact absurd g2 hk
   ·rw[g3 k h2 h1] at hk;exact ⟨h2,hk⟩
  by_cases hi:i=b'
  ·subst hi
   rw[Sg.put_self] at hx;obtain rfl:=Option.some.inj hx
   have hj:j≠i:=fun e=>hij e.symm
   rw[Sg.put_ne σ e' hj] at hy
   obtain ⟨l1,l2⟩:=liv j hj dj
   rw[hblk];exact fun e=>h.inj j b _ _ hy he l2 hnd l1 e.symm
  ·rw[Sg.put_ne σ e' hi] at hx
   obtain ⟨l1,l2⟩:=liv i hi di
   by_cases hj:j=b'
   ·subst hj
    rw[Sg.put_self] at hy;obtain rfl:=Option.some.inj hy
    rw[hblk];exact h.inj i b _ _ hx he l2 hnd l1
   ·rw[Sg.put_ne σ e' hj] at hy
    obtain ⟨m1,m2⟩:=liv j hj dj
    exact h.inj i j x y hx hy l2 m2 hij
 ·have h1:id≠b':=fun e=>hf (e▸hb')
  have h2:id≠b:=fun e'=>by subst e';rw[he] at hid;cases hid
  exact ⟨by rw[Sg.put_ne σ e' h1];exact hid,g3 id h2 h1⟩
 ·by_cases h1:id=b'
  ·subst h1;rw[g1];exact hof
  ·by_cases h2:id=b
   ·subst h2;rw[g2];simp
   ·rw[g3 id h2 h1];exact hf
theorem Sim.renew(h:Sim pr w0 σ H w){b b':Nat}{e e':En}(he:σ b=some e)(hb':hget H b'= .free){o:AO}(m:Made σ w w' o e'):
 Sim pr w0 (σ.put b' e') (hallocK (hset H b .dead) o b') w'∧Grows σ H (σ.put b' e') (hallocK (hset H b .dead) o b'):=by
 obtain ⟨k1,k2⟩:=h.kill he
 have hne:b'≠b:=fun x=>by subst x;exact absurd hb' (h.notFree he)
 obtain ⟨k3,k4⟩:=k1.made (b:=b') (by rw[hget_hset_ne _ _ hne];exact hb') m
 exact ⟨k3,k2.trans k4⟩
end sim
section ops
variable {P:Program} {rs:Rs} {o:Oper} {R:Fr}
theorem opspec_builtin{c:Go.Call}{b:Builtin}(ho:o.op= .call c)(hc:c.callee= .builtin b){args:List Od}(ha:prepOds rs c.args.toList=some args){v:AV}{H H':Hp}(hst:Stays H H')
 (h: ∀(pr:Nat→Prop) (w0 w:World) (σ:Sg) (xs:List Value),ArgsR σ R args xs→Sim pr w0 σ H w→
   ∃x w' τ,(∀cs,(builtin b c.argTypes o.type cs xs.toArray).run P w= .ok (.value x) w')∧Grows σ H τ H'∧conc τ v=some x∧Sim pr w0 τ H' w'):OpSpec P rs o R H v H':=by
 refine ⟨hst,fun r pr w0 σ a w hr hs=>?_⟩
 have hops: ∀x∈c.args.toList,x∈o.op.operands:=fun x hx=>by
  rw[ho];simp[Op.operands,Call.operands,hc];simpa using hx
 obtain ⟨x,w',τ,h1,h2,h3,h4⟩:=h pr w0 w σ _ (prepOds_conc hr ha hops) hs
 refine opRun_value (by intro c hc;rw[ho] at hc;cases hc) (w':=w') (x:=x) ?_ ⟨τ,h2,h3,h4⟩
 rw[run_builtin ho hc]
 have:(c.args.toList.map a.eval).toArray=c.args.map a.eval:=Array.toList_inj.1 (by simp)
 rw[←this]
 exact h1 _
theorem run_app_none{t u ty e:TypeId}{i:TypeInfo}{d:TypeDesc}(ht:P.underlying t=some (.slice e))(hu:P.underlying u=some d)(hi:P.info? e=some i){w:World}{xs:List Value}{x:Value}
 (hx:AppSrc P e i d x w 0 xs):(Builtin.append_ #[t,u] ty #[.slice none 0 0,x]).run P w= .ok (.slice none 0 0) w:=by
 cases hx with
 |cells hd hlen hf=>
  have h2:=hf w rfl
  rcases hd with ⟨e',rfl⟩|rfl
  all_goals simp[Builtin.append_,run_underlying ht,run_underlying hu,sizeOf,typeInfo,hi,hlen,h2]
 | @zeros j j' z hd hx hn hz hi' hs hxs=>
   subst hd hx
   obtain ⟨w1,w2,w3⟩:=zeros_num hn
   simp at w1
   simp[Builtin.append_,run_underlying ht,run_underlying hu,sizeOf,typeInfo,hi,Go.asInt,asIntOf,w1]
structure AppR (P:Program) (A:AppT) (t:TypeId) (i:TypeInfo) (z:Value):Prop where
 und:P.underlying t=some (.slice A.el)
 info:P.info? A.el=some i
 zero:i.zero=some z
 cells:z.cells.size=i.size
 esz:A.esz=i.size
 bytes:A.bytes=i.bytes
 pos:0<A.esz
def AppOk(P:Program)(A:AppT)(t:TypeId)(i:TypeInfo)(sv:AV)(n:Nat)(new:List AV)(H:Hp)(v:AV)(H':Hp):Prop:=
 Stays H H'∧ ∀(pr:Nat→Prop) (w0 w:World) (σ:Sg) (sx x:Value) (xs:List Value) (d:TypeDesc) (u ty:TypeId),conc σ sv=some sx→concL σ new=some xs→P.underlying u=some d→AppSrc P A.el i d x w n xs→Sim pr w0 σ H w→
  ∃y w' τ,(Builtin.append_ #[t,u] ty #[sx,x]).run P w= .ok y w'∧Grows σ H τ H'∧conc τ v=some y∧Sim pr w0 τ H' w'
theorem appOk_true{A:AppT}{need:Nat}{r:Bool}(h:appOk A need r=true):need*(A.bytes+1)≤1099511627776∧r=true:=by
 obtain ⟨h1,h2⟩:=chk_iff.1 h
 exact ⟨ble_iff.1 h1,h2⟩
theorem conc_suNew{τ:Sg}{b blk len c esz tot:Nat}(hb:τ b=some ⟨blk,0,tot⟩)(hpos:0<esz)(hle:len≤c)(ht:tot=c*esz):conc τ (.su b 0 len esz)=some (.slice (some ⟨blk,0,none⟩) len c):=by
 subst ht
 have h1:len*esz≤c*esz:=Nat.mul_le_mul_right _ hle
 simp only[conc,hb,Option.bind_some]
 rw[if_pos ⟨hpos,by omega⟩]
 simp[Nat.mul_div_cancel _ hpos]
theorem app_grow{A:AppT}{t:TypeId}{i:TypeInfo}{z:Value}(hA:AppR P A t i z){n len:Nat}{old new:List AV}(ho:old.length=len*A.esz)(hn:new.length=n*A.esz)
 (hneed:(len+n)*(A.bytes+1)≤1099511627776) {w:World} {σ:Sg} {sx x:Value} {base:Option Addr} {sCap:Nat} {xs olds:List Value} {d:TypeDesc} {u ty:TypeId} (hsx:sx= .slice base len sCap) (hxs:concL σ new=some xs) (hos:concL σ old=some olds)
 (hu:P.underlying u=some d) (hx:AppSrc P A.el i d x w n xs) (hold: ∀w',w'.heap=w.heap→(Builtin.firstCells i.size len (.slice base len sCap)).run P w'= .ok olds.toArray w') (hg:sCap<len+n):
 ∃y w' e,(Builtin.append_ #[t,u] ty #[sx,x]).run P w= .ok y w'∧Made σ w w' (.cells A.el true (csOf (old++new))) e∧ ∀τ b,τ b=some e→conc τ (.su b 0 (len+n) A.esz)=some y:=by
 subst hsx
 rw[hA.bytes] at hneed
 obtain ⟨c,w',h1,h2,h3,h4⟩:=run_app_grows (ty:=ty) hA.und hu hA.info hA.zero hx hold hg hneed
 have l1:=concL_length hxs
 have l2:=concL_length hos
 have hz:((List.replicate (c-(len+n)) z.cells.toList).flatten).length=(c-(len+n))*A.esz:=by simp[hA.cells,hA.esz]
 have htot:((olds++xs)++(List.replicate (c-(len+n)) z.cells.toList).flatten).length=c*A.esz:=by
  rw[List.length_append,List.length_append,hz,l1,l2,ho,hn, ←Nat.add_mul, ←Nat.add_mul]
  congr 1;omega
 refine ⟨_,w',_,h2,made_cells (sp:=true) (concL_append hos hxs) h3 h4 (.inl rfl) (by simp),fun τ b ht=>?_⟩
 exact conc_suNew ht hA.pos h1 htot
theorem firstCells_cells{e:En}{el:Nat}{sp:Bool}{c:Cs}{arr:Array Value}{fz:Nat × Nat}{σ:Sg}{w:World}(h:CellsR σ w e el sp c arr fz){off len size cap m:Nat}(hi:off+m*size≤c.n):
 ∃xs,concL σ ((List.range (m*size)).map fun i=>cget c.t (off+i))=some xs∧ ∀w',w'.heap=w.heap→(Builtin.firstCells size m (.slice (some ⟨e.blk,e.base+off,none⟩) len cap)).run P w'= .ok xs.toArray w':=by
 obtain ⟨xs,x1,x2,x3⟩:=h.reads (off:=off) (n:=m*size) hi
 refine ⟨xs,x1,fun w' hw=>?_⟩
 exact run_firstCells_some w' size m _ len cap xs x2 (fun j v hv=>by
  have:=x3 j v hv
  simpa[World.cell?,hw] using this)
end ops
end Go.Ev
namespace Go.Ev
section ops
variable {P:Program} {rs:Rs} {o:Oper} {R:Fr}
theorem sl_pos{len n cap:Nat}(h: ¬(Nat.ble (Nat.add len n) cap)=true):cap<len+n:=by
 rcases Nat.lt_or_ge cap (len+n) with h1|h1
 ·exact h1
 ·exact absurd (ble_iff.2 h1) h
theorem stays_renew{H:Hp}{b b':Nat}{ob:AO}(h:ob≠ .free):Stays H (hallocK (hset H b .dead) ob b'):=(stays_set (by simp)).trans (stays_alloc h)
theorem app_in{A:AppT}{t:TypeId}{i:TypeInfo}{z:Value}(hA:AppR P A t i z){sv:AV}{n:Nat}{new:List AV}{H:Hp}{b off len el:Nat}{sp:Bool}{c:Cs}{r:AV}(hn:new.length=n*A.esz)
 (hb:hget H b= .cells el sp c) (hsc:lall scalar new=true) (hle:off+len*A.esz+new.length≤c.n)
 (hcap: ∀(σ:Sg) (sx:Value) (e:En),conc σ sv=some sx→σ b=some e→(∀arr fz w,CellsR σ w e el sp c arr fz→ ∃cap,sx= .slice (some ⟨e.blk,e.base+off,none⟩) len cap∧len+n≤cap∧conc σ r=some (.slice (some ⟨e.blk,e.base+off,none⟩) (len+n) cap)))
 (hdom: ∀(σ:Sg) (sx:Value),conc σ sv=some sx→ ∃e,σ b=some e):
 AppOk P A t i sv n new H r (hset H b (.cells el sp (cput c (off+len*A.esz) new))):=by
 refine ⟨stays_set (by simp),fun pr w0 w σ sx x xs d u ty hsv hxs hu hx hs=>?_⟩
 obtain ⟨e,he⟩:=hdom σ sx hsv
 obtain ⟨arr,fz,hc⟩:=hs.cells he hb
 obtain ⟨cap,h1,h2,h3⟩:=hcap σ sx e hsv he arr fz w hc
 obtain ⟨w',k1,k2,k3⟩:=hs.put (P:=P) he hb hxs hsc (off:=off+len*A.esz) (m:=c.n) (Nat.le_refl _) hc.le (fun i hi=> .inl hi) (fun _=>rfl) (by have:=hc.le;omega)
 refine ⟨_,w',σ,?_,k3,h3,k2⟩
 subst h1
 refine run_app_fits hA.und hu hA.info hx h2 ?_
 rw[addr_add, ←hA.esz];exact k1
theorem appTo_ok{A:AppT}{t:TypeId}{i:TypeInfo}{z:Value}(hA:AppR P A t i z){sv:AV}{H:Hp}{k:KV}{n:Nat}{new:List AV}(hn:new.length=n*A.esz)(hk:appTo A sv H k n new=true):
 ∃v H',k v H'=true∧AppOk P A t i sv n new H v H':=by
 rcases asSlc_true hk with ⟨h1,hk2⟩|⟨b,off,len,cap,h1,hk2⟩|⟨b,off,len,esz,h1,hk2⟩
 ·
  unfold appNil at hk2
  rw[bc_eq] at hk2
  split at hk2
  ·rename_i h0
   have h0':n=0:=beq_iff.1 h0
   refine ⟨_,_,hk2,Stays.refl H,fun pr w0 w σ sx x xs d u ty hsv hxs hu hx hs=>?_⟩
   rw[h1] at hsv;obtain rfl:=conc_nils hsv
   subst h0'
   exact ⟨_,w,σ,run_app_none hA.und hu hA.info hx,Grows.refl σ H,rfl,hs⟩
  ·rename_i h0
   have h0':0<n:=by
    rcases Nat.eq_zero_or_pos n with h|h
    ·exact absurd (beq_iff.2 h) h0
    ·exact h
   obtain ⟨hneed,hk3⟩:=appOk_true hk2
   obtain ⟨b',hb',hk4⟩:=halloc_true hk3
   refine ⟨_,_,hk4,stays_alloc (by simp),fun pr w0 w σ sx x xs d u ty hsv hxs hu hx hs=>?_⟩
   rw[h1] at hsv;have hsx:=conc_nils hsv
   obtain ⟨y,w',e,r1,r2,r3⟩:=app_grow hA (len:=0) (old:=[]) (ty:=ty) (by simp) hn (by simpa using hneed) hsx hxs rfl hu hx (fun w' _=>by simp[run_firstCells_none]) (by omega)
   obtain ⟨k1,k2⟩:=hs.made hb' (by simpa using r2)
   exact ⟨y,w',_,r1,k2,by simpa using r3 _ _ (Sg.put_self σ b' e),k1⟩
 ·
  obtain ⟨el,sp,c,hb,hk3⟩:=hcells_true hk2
  unfold appSl2 at hk3
  rw[bc_eq] at hk3
  split at hk3
  ·rename_i hfit
   have hfit':len+n≤cap:=ble_iff.1 hfit
   obtain ⟨c1,hk4⟩:=chk_iff.1 hk3
   obtain ⟨c2,hk5⟩:=chk_iff.1 hk4
   have c2':off+len*A.esz+new.length≤c.n:=by rw[←llen_eq];exact ble_iff.1 c2
   refine ⟨_,_,hk5,app_in hA hn hb c1 c2' (fun σ sx e hsv he arr fz w hc=>?_) (fun σ sx hsv=>?_)⟩
   ·rw[h1] at hsv;obtain ⟨e2,q1,q2⟩:=conc_sl hsv
    rw[he] at q1;obtain rfl:=Option.some.inj q1
    exact ⟨cap,q2,hfit',by simp[conc,he]⟩
   ·rw[h1] at hsv;obtain ⟨e2,q1,q2⟩:=conc_sl hsv;exact ⟨e2,q1⟩
  ·rename_i hfit
   obtain ⟨c1,hk4⟩:=clist_true hk3
   obtain ⟨hneed,hk5⟩:=appOk_true hk4
   obtain ⟨b',hb',hk6⟩:=halloc_true hk5
   rw[lapp_eq] at hk6
   refine ⟨_,_,hk6,stays_alloc (by simp),fun pr w0 w σ sx x xs d u ty hsv hxs hu hx hs=>?_⟩
   rw[h1] at hsv;obtain ⟨e,q1,q2⟩:=conc_sl hsv
   obtain ⟨arr,fz,hc⟩:=hs.cells q1 hb
   obtain ⟨olds,o1,o2⟩:=firstCells_cells (P:=P) hc (off:=off) (len:=len) (size:=i.size) (cap:=cap) (m:=len) (by rw[←hA.esz];exact c1)
   rw[←hA.esz] at o1
   obtain ⟨y,w',e',r1,r2,r3⟩:=app_grow hA (len:=len) (ty:=ty) (by simp) hn hneed q2 hxs o1 hu hx o2 (sl_pos hfit)
   obtain ⟨k1,k2⟩:=hs.made hb' r2
   exact ⟨y,w',_,r1,k2,r3 _ _ (Sg.put_self σ b' e'),k1⟩
 ·
  obtain ⟨z1,hk3⟩:=chk_iff.1 hk2
  have z1':esz=A.esz:=beq_iff.1 z1
  subst z1'
  obtain ⟨el,sp,c,hb,hk4⟩:=hcells_true hk3
  obtain ⟨hsc,hk5⟩:=chk_iff.1 hk4
  rw[bc_eq] at hk5
  split at hk5
  ·rename_i hfit
   have hfit':off+len*A.esz+new.length≤c.n:=by rw[←llen_eq];exact ble_iff.1 hfit
   obtain ⟨_,hk6⟩:=chk_iff.1 hk5
   obtain ⟨_,hk7⟩:=chk_iff.1 hk6
   refine ⟨_,_,hk7,app_in hA hn hb hsc hfit' (fun σ sx e hsv he arr fz w hc=>?_) (fun σ sx hsv=>?_)⟩
   ·rw[h1] at hsv;obtain ⟨e2,q1,q2,q3,q4⟩:=conc_su hsv
    rw[he] at q1;obtain rfl:=Option.some.inj q1
    have hle:=hc.le
    have hmul:off+(len+n)*A.esz≤e.tot:=by rw[Nat.add_mul];omega
    refine ⟨_,q4,?_,?_⟩
    ·exact (Nat.le_div_iff_mul_le q2).2 (by omega)
    ·simp only[conc,he,Option.bind_some]
     rw[if_pos ⟨q2,hmul⟩]
     rfl
   ·rw[h1] at hsv;obtain ⟨e2,q1,_⟩:=conc_su hsv;exact ⟨e2,q1⟩
  ·rename_i hfit
   have hfit':c.n<off+len*A.esz+new.length:=by
    rcases Nat.lt_or_ge c.n (off+len*A.esz+new.length) with h|h
    ·exact h
    ·rw[←llen_eq] at h;exact absurd (ble_iff.2 h) hfit
   obtain ⟨e0,hk6⟩:=chk_iff.1 hk5
   have e0':off+len*A.esz=c.n:=beq_iff.1 e0
   have both: ∀(c':Cs),c'.n=len*A.esz+new.length→(∀j,j<len*A.esz→cget c'.t j=cget c.t (off+j))→(∀j,j<new.length→cget c'.t (len*A.esz+j)=new.getD j undf)→
    el=A.el→sp=true→appOk A (Nat.add len n) (halloc (hset H b .dead) (.cells A.el true c') (kSu (Nat.add len n) A.esz k))=true→ ∃v H',k v H'=true∧AppOk P A t i sv n new H v H':=fun c' hcn hc1 hc2 hel hsp hk=>by
    obtain ⟨hneed,hk1⟩:=appOk_true hk
    obtain ⟨b',hb',hk2⟩:=halloc_true hk1
    have hbb:b'≠b:=fun x=>by subst x;rw[hget_hset_self] at hb';cases hb'
    rw[hget_hset_ne _ _ hbb] at hb'
    subst hel hsp
    refine ⟨_,_,hk2,stays_renew (by simp),fun pr w0 w σ sx x xs d u ty hsv hxs hu hx hs=>?_⟩
    rw[h1] at hsv;obtain ⟨e,q1,q2,q3,q4⟩:=conc_su hsv
    obtain ⟨arr,fz,hc⟩:=hs.cells q1 hb
    have hle:=hc.le
    have lx:=concL_length hxs
    by_cases hroom:len+n≤(e.tot-off) / A.esz
    ·
     have hmul:off+(len+n)*A.esz≤e.tot:=by
      have:=(Nat.le_div_iff_mul_le q2).1 hroom
      have h0:0<len*A.esz+new.length∨len*A.esz+new.length=0:=by omega
      rw[Nat.add_mul] at this ⊢;omega
     obtain ⟨w',arr',s1,s2,s3,s4⟩:=run_storeCells_own (P:=P) e.blk (e.base+(off+len*A.esz)) A.el fz xs 0 arr w hc.at_ (by have:=hc.room;rw[Nat.add_mul] at hmul;omega) hc.thaw (scalars_one hsc hxs)
     simp only[Nat.add_zero] at s4
     have hcr:CellsR (σ.put b' ⟨e.blk,e.base+off,e.tot-off⟩) w' ⟨e.blk,e.base+off,e.tot-off⟩ A.el true c' arr' fz:=by
      refine ⟨s3,?_,?_,fun j hj=>?_,by rw[s4.1];exact hc.thaw,fun h=>by cases h⟩
      ·show c'.n≤e.tot-off
       rw[hcn,hn, ←Nat.add_mul];omega
      ·show e.base+off+(e.tot-off)≤arr'.size
       rw[s4.1];have:=hc.room;omega
      ·show ∃x,arr'[e.base+off+j]? =some x∧_
       have hmono:=Sg.le_put σ ⟨e.blk,e.base+off,e.tot-off⟩ (hs.fresh hb')
       rw[s4.2]
       by_cases hj2:j<len*A.esz
       ·rw[if_neg (by omega),hc1 j hj2]
        obtain ⟨y,y1,y2⟩:=hc.cell (off+j) (by omega)
        exact ⟨y,by rw[←y1];congr 1;omega,conc_mono hmono _ _ y2⟩
       ·rw[if_pos (by omega)]
        obtain ⟨m,rfl⟩: ∃m,j=len*A.esz+m:=⟨j-len*A.esz,by omega⟩
        have hm:m<new.length:=by omega
        rw[hc2 m hm]
        obtain ⟨y,y1,y2⟩:=concL_get m hxs new[m] (by simp[hm])
        refine ⟨y,by rw[←y1];congr 1;omega,?_⟩
        rw[List.getD_eq_getElem?_getD,List.getElem?_eq_getElem hm]
        exact conc_mono hmono _ _ y2
     obtain ⟨k1,k2⟩:=hs.rename (o:= .cells A.el true c') (e':=⟨e.blk,e.base+off,e.tot-off⟩) q1 (by rw[hb];simp) hb' rfl s2 (fun l cl=>by rw[hc.at_];simp) ⟨arr',fz,hcr⟩
     refine ⟨.slice (some ⟨e.blk,e.base+off,none⟩) (len+n) ((e.tot-off) / A.esz),w',_,?_,k2,?_,k1⟩
     ·rw[q4]
      refine run_app_fits hA.und hu hA.info hx hroom ?_
      rw[addr_add, ←hA.esz];exact s1
     ·simp only[conc,Sg.put_self,Option.bind_some]
      rw[if_pos ⟨q2,by show 0+(len+n)*A.esz≤e.tot-off;omega⟩]
      simp
    ·
     obtain ⟨olds,o1,o2⟩:=firstCells_cells (P:=P) hc (off:=off) (len:=len) (size:=i.size) (cap:=(e.tot-off) / A.esz) (m:=len) (by rw[←hA.esz];omega)
     rw[←hA.esz] at o1
     obtain ⟨y,w',e',r1,r2,r3⟩:=app_grow hA (len:=len) (ty:=ty) (by simp) hn hneed q4 hxs o1 hu hx o2 (by omega)
     have hsame:BR σ w' e' (.cells A.el true c'):=by
      obtain ⟨arr2,fz2,hc2'⟩:=r2.br
      refine ⟨arr2,fz2,⟨hc2'.at_,?_,hc2'.room,fun j hj=>?_,hc2'.thaw,fun h=>by cases h⟩⟩
      ·have:=hc2'.le;rw[csOf_n] at this;simp at this;rw[hcn];exact this
      ·obtain ⟨y,y1,y2⟩:=hc2'.cell j (by rw[csOf_n];simp;omega)
       refine ⟨y,y1,?_⟩
       rw[csOf_get _ _ (by simp;omega)] at y2
       by_cases hj2:j<len*A.esz
       ·rw[hc1 j hj2]
        rw[List.getD_eq_getElem?_getD,List.getElem?_append_left (by simpa using hj2)] at y2
        simpa[hj2] using y2
       ·obtain ⟨m,rfl⟩: ∃m,j=len*A.esz+m:=⟨j-len*A.esz,by omega⟩
        rw[hc2 m (by omega)]
        rw[List.getD_eq_getElem?_getD,List.getElem?_append_right (by simp)] at y2
        simpa using y2
     obtain ⟨k1,k2⟩:=hs.renew q1 hb' (o:= .cells A.el true c') ⟨r2.more,r2.blk,r2.lt,hsame⟩
     exact ⟨y,w',_,r1,k2,r3 _ _ (Sg.put_self σ b' e'),k1⟩
   rw[bc_eq] at hk6
   split at hk6
   ·rename_i hoff
    have hoff':off=0:=beq_iff.1 hoff
    subst hoff'
    obtain ⟨f1,hk7⟩:=chk_iff.1 hk6
    obtain ⟨f2,hk8⟩:=chk_iff.1 hk7
    refine both _ ?_ (fun j hj=>?_) (fun j hj=>?_) (beq_iff.1 f1) f2 hk8
    ·show c.n+llen new=_
     rw[llen_eq];omega
    ·show cget (csetL new c.n c.t) j=_
     rw[cget_csetL,if_neg (by omega),Nat.zero_add]
    ·show cget (csetL new c.n c.t) (len*A.esz+j)=_
     rw[cget_csetL,if_pos (by omega)]
     congr 1;omega
   ·obtain ⟨g1,hk7⟩:=clist_true hk6
    obtain ⟨f1,hk8⟩:=chk_iff.1 hk7
    obtain ⟨f2,hk9⟩:=chk_iff.1 hk8
    rw[lapp_eq] at hk9
    refine both _ ?_ (fun j hj=>?_) (fun j hj=>?_) (beq_iff.1 f1) f2 hk9
    ·rw[csOf_n];simp
    ·rw[csOf_get _ _ (by simp;omega),List.getD_eq_getElem?_getD,List.getElem?_append_left (by simpa using hj)]
     simp[hj]
    ·rw[csOf_get _ _ (by simp;omega),List.getD_eq_getElem?_getD,List.getElem?_append_right (by simp),List.getD_eq_getElem?_getD]
     simp
theorem srcA_true{esz:Nat}{v:AV}{H:Hp}{k:Nat→List AV→Bool}(h:srcA esz v H k=true): ∃n new,k n new=true∧new.length=n*esz∧
 ∀(σ:Sg) (w:World) (pr:Nat→Prop) (w0:World) (x:Value),conc σ v=some x→Sim pr w0 σ H w→ ∃xs,concL σ new=some xs∧Builtin.lenOf x=pure n∧ ∀w',w'.heap=w.heap→(Builtin.firstCells esz n x).run P w'= .ok xs.toArray w':=by
 have fin: ∀b off len cc,srcAb esz H k b off len cc=true→(∀σ x,conc σ v=some x→ ∃e cap,σ b=some e∧x= .slice (some ⟨e.blk,e.base+off,none⟩) len cap)→ ∃n new,k n new=true∧new.length=n*esz∧
  ∀(σ:Sg) (w:World) (pr:Nat→Prop) (w0:World) (x:Value),conc σ v=some x→Sim pr w0 σ H w→ ∃xs,concL σ new=some xs∧Builtin.lenOf x=pure n∧ ∀w',w'.heap=w.heap→(Builtin.firstCells esz n x).run P w'= .ok xs.toArray w':=fun b off len cc hk hv=>by
  obtain ⟨el,sp,c,hb,hk3⟩:=hcells_true hk
  obtain ⟨c1,hk4⟩:=clist_true hk3
  refine ⟨_,_,hk4,by simp,fun σ w pr w0 x hx hs=>?_⟩
  obtain ⟨e,cap,e1,rfl⟩:=hv σ x hx
  obtain ⟨arr,fz,hc⟩:=hs.cells e1 hb
  obtain ⟨xs,x1,x2⟩:=firstCells_cells (P:=P) hc (off:=off) (len:=len) (size:=esz) (cap:=cap) (m:=len) c1
  exact ⟨xs,x1,rfl,x2⟩
 unfold srcA at h
 rw[bc_eq] at h
 by_cases hse:isSe v=true
 ·rw[if_pos hse] at h
  cases v <;> simp[isSe] at hse
  refine ⟨0,[],h,by simp,fun σ w pr w0 x hx hs=>⟨[],rfl,?_⟩⟩
  obtain ⟨e,a,c,_,rfl⟩:=conc_se hx
  refine ⟨rfl,fun w' _=>?_⟩
  have h0:=run_loadCells_list (P:=P) w' a [] (fun j y hy=>by simp at hy)
  show (loadCells a (0*esz)).run P w'=_
  rw[Nat.zero_mul];exact h0
 rw[if_neg hse] at h
 rcases asSlc_true h with ⟨h1,hk2⟩|⟨b,off,len,cap,h1,hk2⟩|⟨b,off,len,z,h1,hk2⟩
 ·refine ⟨0,[],hk2,by simp,fun σ w pr w0 x hx hs=>⟨[],rfl,?_⟩⟩
  rw[h1] at hx;obtain rfl:=conc_nils hx
  exact ⟨rfl,fun w' _=>by simp[run_firstCells_none]⟩
 ·exact fin b off len cap hk2 fun σ x hx=>by rw[h1] at hx;obtain ⟨e,e1,e2⟩:=conc_sl hx;exact ⟨e,cap,e1,e2⟩
 ·exact fin b off len z hk2 fun σ x hx=>by rw[h1] at hx;obtain ⟨e,e1,_,_,e2⟩:=conc_su hx;exact ⟨e,_,e1,e2⟩
theorem pAppend2_info{e:TypeId}{i:TypeInfo}{z:List AV}(hi:bc (Nat.beq ((szO P e).getD 0) 0) none (tinfo P e)=some i)(hz:zO P e=some z){t:TypeId}(ht:tund P t=some (.slice e)): ∃zv,AppR P ⟨e,i.size,i.bytes⟩ t i zv:=by
 rw[bc_eq] at hi
 split at hi
 ·cases hi
 ·rename_i h0
  obtain ⟨i',v,z1,z2,z3,z4,z5⟩:=zO_some hz
  rw[tinfo_some hi] at z1;obtain rfl:=Option.some.inj z1
  refine ⟨v,⟨tund_some ht,tinfo_some hi,z2,z3,rfl,rfl,?_⟩⟩
  show 0<i.size
  have:szO P e=some i.size:=by simp[szO,hi]
  rw[this] at h0
  rcases Nat.eq_zero_or_pos i.size with h|h
  ·exact absurd (beq_iff.2 h) h0
  ·exact h
theorem sAppend{c:Go.Call}{F:Fs}(ho:o.op= .call c)(hc:c.callee= .builtin .append){s x:Od}(ha:prepOds rs c.args.toList=some [s,x]){t u:TypeId}(ht:c.argTypes.toList=[t,u]):OShows P rs o (pAppend P t u s x) F:=fun R H k hk=>by
 have hat:c.argTypes= #[t,u]:=Array.toList_inj.1 (by simp[ht])
 unfold pAppend at hk
 split at hk
 ·rename_i e hu
  unfold pAppend2 at hk
  split at hk
  ·
   rename_i i z e' hi hz hu2
   obtain ⟨zv,hA⟩:=pAppend2_info hi hz hu
   obtain ⟨n,new,hk1,hlen,hsrc⟩:=srcA_true (P:=P) hk
   obtain ⟨v,H',hk2,hst,hap⟩:=appTo_ok hA hlen hk1
   refine ⟨v,H',hk2,opspec_builtin ho hc ha hst fun pr w0 w σ xs hxs hs=>?_⟩
   obtain ⟨sx,xx,rfl,h1,h2⟩:=argsR2 hxs
   obtain ⟨ys,y1,y2,y3⟩:=hsrc σ w pr w0 xx h2 hs
   obtain ⟨y,w',τ,r1,r2,r3,r4⟩:=hap pr w0 w σ sx xx ys _ u o.type h1 y1 (tund_some hu2) (.cells (.inl ⟨e',rfl⟩) y2 y3) hs
   refine ⟨y,w',τ,fun cs=>?_,r2,r3,r4⟩
   simp only[builtin,hat,Sem.run_bind]
   rw[show ([sx,xx].toArray)= #[sx,xx] from rfl,r1];rfl
  ·
   rename_i i z hi hz hu2
   rw[bc_eq] at hk
   split at hk
   ·rename_i h1s
    have h1s':i.size=1:=beq_iff.1 h1s
    obtain ⟨zv,hA⟩:=pAppend2_info hi hz hu
    obtain ⟨l,m,e1,hk1⟩:=asStr_true hk
    have hlen:(lbytes l m).length=l*i.size:=by
     have:=concL_length (lbytes_conc (σ:=fun _=>none) l m)
     rw[←this];simp[unpack_length,h1s']
    obtain ⟨v,H',hk2,hst,hap⟩:=appTo_ok hA hlen hk1
    refine ⟨v,H',hk2,opspec_builtin ho hc ha hst fun pr w0 w σ xs hxs hs=>?_⟩
    obtain ⟨sx,xx,rfl,h1,h2⟩:=argsR2 hxs
    rw[e1] at h2;obtain rfl:=conc_str' h2
    obtain ⟨y,w',τ,r1,r2,r3,r4⟩:=hap pr w0 w σ sx (.string (bts (unpack l m))) _ _ u o.type h1 (lbytes_conc l m) (tund_some hu2) (.cells (.inr rfl) (by simp[Builtin.lenOf,bts_size,unpack_length]) (fun w' _=>by
     simp only[Builtin.firstCells,Sem.run_pure,bts_extract]
     congr 1
     simp[bts,List.take_of_length_le,unpack_length])) hs
    refine ⟨y,w',τ,fun cs=>?_,r2,r3,r4⟩
    simp only[builtin,hat,Sem.run_bind]
    rw[show ([sx,Value.string (bts (unpack l m))].toArray)= #[sx, .string (bts (unpack l m))] from rfl,r1];rfl
   ·exact (vfail_run hk).elim
  ·
   rename_i i z j hi hz hu2
   obtain ⟨zv,hA⟩:=pAppend2_info hi hz hu
   obtain ⟨i',v',z1,z2,z3,z4,z5⟩:=zO_some hz
   have hii:i'=i:=by have:=hA.info;rw[z1] at this;exact Option.some.inj this
   subst hii
   have hzv:v'=zv:=by have:=hA.zero;rw[z2] at this;exact Option.some.inj this
   subst hzv
   obtain ⟨jx,n,e1,hk1⟩:=ix_true hk
   obtain ⟨hb,hk2⟩:=chk_iff.1 hk1
   have hb':n*(i'.bytes+1)≤1099511627776:=ble_iff.1 hb
   have hzl:z.length=i'.size:=by have:=concL_length (z5 fun _=>none);simp at this;omega
   have hlen:(lrep n z).length=n*i'.size:=by rw[lrep_eq];simp[hzl]
   obtain ⟨v,H',hk3,hst,hap⟩:=appTo_ok hA hlen hk2
   refine ⟨v,H',hk3,opspec_builtin ho hc ha hst fun pr w0 w σ xs hxs hs=>?_⟩
   obtain ⟨sx,xx,rfl,h1,h2⟩:=argsR2 hxs
   rw[e1] at h2;obtain rfl:=conc_int h2
   have hzc:concL σ (lrep n z)=some (List.replicate n v'.cells.toList).flatten:=by rw[lrep_eq];exact concL_rep (z5 σ) n
   obtain ⟨y,w',τ,r1,r2,r3,r4⟩:=hap pr w0 w σ sx (.int jx n) _ _ u o.type h1 hzc (tund_some hu2) (.zeros rfl rfl hb' z2 z1 z3 rfl) hs
   refine ⟨y,w',τ,fun cs=>?_,r2,r3,r4⟩
   simp only[builtin,hat,Sem.run_bind]
   rw[show ([sx,Value.int jx (n:Int)].toArray)= #[sx, .int jx n] from rfl,r1];rfl
  ·exact (vfail_run hk).elim
 ·exact (vfail_run hk).elim
end ops
end Go.Ev
namespace Go.Ev
section ops
variable {P:Program} {rs:Rs} {o:Oper} {R:Fr}
theorem run_copy{t u ty e:TypeId}{s:Nat}(ht:P.underlying t=some (.slice e))(hs:szO P e=some s){w w':World}{a:Addr}{dLen dCap n m:Nat}{x:Value}{xs:List Value}(hl:Builtin.lenOf x=pure m)(hn:n=Nat.min m dLen)
 (hf:(Builtin.firstCells s n x).run P w= .ok xs.toArray w) (hst:(storeCells a xs).run P w= .ok () w'):
 (Builtin.copy_ #[t,u] ty #[.slice (some a) dLen dCap,x]).run P w= .ok (goInt n) w':=by
 subst hn
 simp[Builtin.copy_,run_underlying ht,run_sizeOf' hs,hl,hf,hst]
theorem run_copy_nil0{t u ty e:TypeId}{s:Nat}(ht:P.underlying t=some (.slice e))(hs:szO P e=some s){w:World}{m:Nat}{x:Value}(hl:Builtin.lenOf x=pure m)
 (hf:(Builtin.firstCells s 0 x).run P w= .ok #[] w):
 (Builtin.copy_ #[t,u] ty #[.slice none 0 0,x]).run P w= .ok (goInt 0) w:=by
 simp[Builtin.copy_,run_underlying ht,run_sizeOf' hs,hl,hf]
theorem srcSl_true{esz most:Nat}{v:AV}{H:Hp}{k:Nat→List AV→Bool}(h:srcSl esz most v H k=true): ∃n m new,k n new=true∧n=min m most∧new.length=n*esz∧
 ∀(σ:Sg) (w:World) (pr:Nat→Prop) (w0:World) (x:Value),conc σ v=some x→Sim pr w0 σ H w→ ∃xs,concL σ new=some xs∧Builtin.lenOf x=pure m∧(Builtin.firstCells esz n x).run P w= .ok xs.toArray w:=by
 have fin: ∀b off len cc,srcb esz most H k b off len cc=true→(∀σ x,conc σ v=some x→ ∃e cap,σ b=some e∧x= .slice (some ⟨e.blk,e.base+off,none⟩) len cap)→ ∃n m new,k n new=true∧n=min m most∧new.length=n*esz∧
  ∀(σ:Sg) (w:World) (pr:Nat→Prop) (w0:World) (x:Value),conc σ v=some x→Sim pr w0 σ H w→ ∃xs,concL σ new=some xs∧Builtin.lenOf x=pure m∧(Builtin.firstCells esz n x).run P w= .ok xs.toArray w:=fun b off len cc hk hv=>by
  obtain ⟨el,sp,c,hb,hk3⟩:=hcells_true hk
  obtain ⟨c1,hk4⟩:=clist_true hk3
  refine ⟨_,len,_,hk4,nmin_eq _ _,by simp,fun σ w pr w0 x hx hs=>?_⟩
  obtain ⟨e,cap,e1,rfl⟩:=hv σ x hx
  obtain ⟨arr,fz,hc⟩:=hs.cells e1 hb
  obtain ⟨xs,x1,x2⟩:=firstCells_cells (P:=P) hc (off:=off) (len:=len) (size:=esz) (cap:=cap) (m:=nmin len most) c1
  exact ⟨xs,x1,rfl,x2 w rfl⟩
 rcases asSlc_true h with ⟨h1,hk2⟩|⟨b,off,len,cap,h1,hk2⟩|⟨b,off,len,z,h1,hk2⟩
 ·refine ⟨0,0,[],hk2,by simp,by simp,fun σ w pr w0 x hx hs=>⟨[],rfl,?_⟩⟩
  rw[h1] at hx;obtain rfl:=conc_nils hx
  exact ⟨rfl,by simp[run_firstCells_none]⟩
 ·exact fin b off len cap hk2 fun σ x hx=>by rw[h1] at hx;obtain ⟨e,e1,e2⟩:=conc_sl hx;exact ⟨e,cap,e1,e2⟩
 ·exact fin b off len z hk2 fun σ x hx=>by rw[h1] at hx;obtain ⟨e,e1,_,_,e2⟩:=conc_su hx;exact ⟨e,_,e1,e2⟩
theorem run_firstStr(l m n size:Nat)(h:n≤l)(w:World):(Builtin.firstCells size n (.string (bts (unpack l m)))).run P w= .ok ((unpack n m).map fun b:UInt8=>Value.int .u8 b.toNat).toArray w:=by
 simp only[Builtin.firstCells,Sem.run_pure,bts_extract]
 rw[unpack_take n l m h]
 congr 1
 simp[bts]
theorem cpyc_ok{b off:Nat}{H:Hp}{k:KV}{n:Nat}{new:List AV}(hk:cpyc b off H k n new=true): ∃H',k (.int .i64 n) H'=true∧Stays H H'∧
 ∀(pr:Nat→Prop) (w0 w:World) (σ:Sg) (e:En) (xs:List Value),σ b=some e→concL σ new=some xs→Sim pr w0 σ H w→ ∃w',(storeCells ⟨e.blk,e.base+off,none⟩ xs).run P w= .ok () w'∧Grows σ H σ H'∧Sim pr w0 σ H' w':=by
 obtain ⟨c1,hk1⟩:=chk_iff.1 hk
 obtain ⟨el,sp,c,hb,hk2⟩:=hcells_true hk1
 obtain ⟨c2,hk3⟩:=chk_iff.1 hk2
 have c2':off+new.length≤c.n:=by rw[←llen_eq];exact ble_iff.1 c2
 refine ⟨_,hk3,stays_set (by simp),fun pr w0 w σ e xs he hxs hs=>?_⟩
 obtain ⟨arr,fz,hc⟩:=hs.cells he hb
 obtain ⟨w',k1,k2,k3⟩:=hs.put (P:=P) he hb hxs c1 (off:=off) (m:=c.n) (Nat.le_refl _) hc.le (fun i hi=> .inl hi) (fun _=>rfl) (by have:=hc.le;omega)
 exact ⟨w',k1,k3,k2⟩
theorem goInt_conc{σ:Sg}(n:Nat):conc σ (.int .i64 n)=some (goInt n):=rfl
theorem sCopy{c:Go.Call}{F:Fs}(ho:o.op= .call c)(hc:c.callee= .builtin .copy){d s:Od}(ha:prepOds rs c.args.toList=some [d,s]){t u:TypeId}(ht:c.argTypes.toList=[t,u]):OShows P rs o (pCopy P t u d s) F:=fun R H k hk=>by
 have hat:c.argTypes= #[t,u]:=Array.toList_inj.1 (by simp[ht])
 unfold pCopy at hk
 split at hk
 ·rename_i e hu
  unfold pCopy2 at hk
  split at hk
  ·
   rename_i n hn hu2
   rw[bc_eq] at hk
   split at hk
   ·rename_i h1
    have h1':n=1:=beq_iff.1 h1
    subst h1'
    have fin: ∀b off len,srcStr len (evd R s) (cpyc b off H k)=true→(∀σ x,conc σ (evd R d)=some x→ ∃e cap,σ b=some e∧x= .slice (some ⟨e.blk,e.base+off,none⟩) len cap)→ ∃v H',k v H'=true∧OpSpec P rs o R H v H':=fun b off len hk hv=>by
     obtain ⟨l,m,e1,hk1⟩:=asStr_true hk
     obtain ⟨H',hk2,hst,hsp⟩:=cpyc_ok (P:=P) hk1
     refine ⟨_,H',hk2,opspec_builtin ho hc ha hst fun pr w0 w σ xs hxs hs=>?_⟩
     obtain ⟨dx,sx,rfl,h1,h2⟩:=argsR2 hxs
     rw[e1] at h2;obtain rfl:=conc_str' h2
     obtain ⟨en,cap,q1,rfl⟩:=hv σ dx h1
     obtain ⟨w',r1,r2,r3⟩:=hsp pr w0 w σ en _ q1 (lbytes_conc _ _) hs
     refine ⟨_,w',σ,fun cs=>?_,r2,goInt_conc _,r3⟩
     have hmin:nmin l len≤l:=by rw[nmin_eq];exact Nat.min_le_left _ _
     have:=run_copy (u:=u) (ty:=o.type) (tund_some hu) hn (w:=w) (w':=w') (a:=⟨en.blk,en.base+off,none⟩) (dLen:=len) (dCap:=cap) (n:=nmin l len) (m:=l) (x:= .string (bts (unpack l m))) (by simp[Builtin.lenOf,bts_size,unpack_length]) (nmin_eq _ _) (run_firstStr l m (nmin l len) 1 hmin w) r1
     simp only[builtin,hat,Sem.run_bind]
     rw[show ([Value.slice (some ⟨en.blk,en.base+off,none⟩) len cap,Value.string (bts (unpack l m))].toArray)= #[.slice (some ⟨en.blk,en.base+off,none⟩) len cap, .string (bts (unpack l m))] from rfl,this];rfl
    rcases asSlc_true hk with ⟨h1,hk2⟩|⟨b,off,len,cap,h1,hk2⟩|⟨b,off,len,z,h1,hk2⟩
    ·obtain ⟨l,m,e1,hk3⟩:=asStr_true hk2
     refine ⟨_,H,hk3,opspec_builtin ho hc ha (Stays.refl H) fun pr w0 w σ xs hxs hs=>?_⟩
     obtain ⟨dx,sx,rfl,h3,h4⟩:=argsR2 hxs
     rw[e1] at h4;obtain rfl:=conc_str' h4
     rw[h1] at h3;obtain rfl:=conc_nils h3
     refine ⟨_,w,σ,fun cs=>?_,Grows.refl σ H,goInt_conc 0,hs⟩
     have:=run_copy_nil0 (u:=u) (ty:=o.type) (tund_some hu) hn (w:=w) (m:=l) (x:= .string (bts (unpack l m))) (by simp[Builtin.lenOf,bts_size,unpack_length]) (by have:=run_firstStr (P:=P) l m 0 1 (Nat.zero_le _) w;simpa[unpack] using this)
     simp only[builtin,hat,Sem.run_bind]
     rw[show ([Value.slice none 0 0,Value.string (bts (unpack l m))].toArray)= #[.slice none 0 0, .string (bts (unpack l m))] from rfl,this];rfl
    ·exact fin b off len hk2 fun σ x hx=>by rw[h1] at hx;obtain ⟨e,e1,e2⟩:=conc_sl hx;exact ⟨e,cap,e1,e2⟩
    ·exact fin b off len hk2 fun σ x hx=>by rw[h1] at hx;obtain ⟨e,e1,_,_,e2⟩:=conc_su hx;exact ⟨e,_,e1,e2⟩
   ·exact (vfail_run hk).elim
  ·
   rename_i n e' hn hu2
   have fin: ∀b off len,srcSl n len (evd R s) H (cpyc b off H k)=true→(∀σ x,conc σ (evd R d)=some x→ ∃e cap,σ b=some e∧x= .slice (some ⟨e.blk,e.base+off,none⟩) len cap)→ ∃v H',k v H'=true∧OpSpec P rs o R H v H':=fun b off len hk hv=>by
    obtain ⟨q,m,new,hk1,hq,hlen,hsrc⟩:=srcSl_true (P:=P) hk
    obtain ⟨H',hk2,hst,hsp⟩:=cpyc_ok (P:=P) hk1
    refine ⟨_,H',hk2,opspec_builtin ho hc ha hst fun pr w0 w σ xs hxs hs=>?_⟩
    obtain ⟨dx,sx,rfl,h1,h2⟩:=argsR2 hxs
    obtain ⟨ys,y1,y2,y3⟩:=hsrc σ w pr w0 sx h2 hs
    obtain ⟨en,cap,q1,rfl⟩:=hv σ dx h1
    obtain ⟨w',r1,r2,r3⟩:=hsp pr w0 w σ en _ q1 y1 hs
    refine ⟨_,w',σ,fun cs=>?_,r2,goInt_conc _,r3⟩
    have:=run_copy (u:=u) (ty:=o.type) (tund_some hu) hn (w:=w) (w':=w') (a:=⟨en.blk,en.base+off,none⟩) (dLen:=len) (dCap:=cap) (n:=q) (m:=m) (x:=sx) y2 hq y3 r1
    simp only[builtin,hat,Sem.run_bind]
    rw[show ([Value.slice (some ⟨en.blk,en.base+off,none⟩) len cap,sx].toArray)= #[.slice (some ⟨en.blk,en.base+off,none⟩) len cap,sx] from rfl,this];rfl
   rcases asSlc_true hk with ⟨h1,hk2⟩|⟨b,off,len,cap,h1,hk2⟩|⟨b,off,len,z,h1,hk2⟩
   ·have fin0: ∀l,(∀σ x,conc σ (evd R s)=some x→Builtin.lenOf x=pure l∧ ∀w,(Builtin.firstCells n 0 x).run P w= .ok #[] w)→kInt H k 0=true→ ∃v H',k v H'=true∧OpSpec P rs o R H v H':=fun l hl hk=>by
     refine ⟨_,H,hk,opspec_builtin ho hc ha (Stays.refl H) fun pr w0 w σ xs hxs hs=>?_⟩
     obtain ⟨dx,sx,rfl,h3,h4⟩:=argsR2 hxs
     rw[h1] at h3;obtain rfl:=conc_nils h3
     obtain ⟨l1,l2⟩:=hl σ sx h4
     refine ⟨_,w,σ,fun cs=>?_,Grows.refl σ H,goInt_conc 0,hs⟩
     have:=run_copy_nil0 (u:=u) (ty:=o.type) (tund_some hu) hn (w:=w) (m:=l) (x:=sx) l1 (l2 w)
     simp only[builtin,hat,Sem.run_bind]
     rw[show ([Value.slice none 0 0,sx].toArray)= #[.slice none 0 0,sx] from rfl,this];rfl
    rcases asSlc_true hk2 with ⟨h2,hk3⟩|⟨b,off,len,cap,h2,hk3⟩|⟨b,off,len,z,h2,hk3⟩
    ·exact fin0 0 (fun σ x hx=>by rw[h2] at hx;obtain rfl:=conc_nils hx;exact ⟨rfl,fun w=>by simp[run_firstCells_none]⟩) hk3
    ·exact fin0 len (fun σ x hx=>by rw[h2] at hx;obtain ⟨e,e1,rfl⟩:=conc_sl hx;exact ⟨rfl,fun w=>by simp[Builtin.firstCells,loadCells,loadCellsFrom]⟩) hk3
    ·exact fin0 len (fun σ x hx=>by rw[h2] at hx;obtain ⟨e,e1,_,_,rfl⟩:=conc_su hx;exact ⟨rfl,fun w=>by simp[Builtin.firstCells,loadCells,loadCellsFrom]⟩) hk3
   ·exact fin b off len hk2 fun σ x hx=>by rw[h1] at hx;obtain ⟨e,e1,e2⟩:=conc_sl hx;exact ⟨e,cap,e1,e2⟩
   ·exact fin b off len hk2 fun σ x hx=>by rw[h1] at hx;obtain ⟨e,e1,_,_,e2⟩:=conc_su hx;exact ⟨e,_,e1,e2⟩
  ·exact (vfail_run hk).elim
 ·exact (vfail_run hk).elim
theorem sClr{c:Go.Call}{F:Fs}(ho:o.op= .call c)(hc:c.callee= .builtin .clear){a:Od}(ha:prepOds rs c.args.toList=some [a]){t:TypeId}(ht:c.argTypes.toList=[t]):OShows P rs o (pClr P t a) F:=fun R H k hk=>by
 have hat:c.argTypes= #[t]:=Array.toList_inj.1 (by simp[ht])
 unfold pClr at hk
 split at hk
 ·rename_i e hu
  unfold pClr2 at hk
  split at hk
  ·rename_i z hz
   obtain ⟨i,v,z1,z2,z3,z4,z5⟩:=zO_some hz
   have nothing:k undf H=true→(∀σ x,conc σ (evd R a)=some x→(∃cap p,x= .slice p 0 cap))→ ∃v H',k v H'=true∧OpSpec P rs o R H v H':=fun hk hv=>
    ⟨undf,H,hk,opspec_builtin ho hc ha (Stays.refl H) fun pr w0 w σ xs hxs hs=>by
     obtain ⟨x,rfl,h1⟩:=argsR1 hxs
     obtain ⟨cap,p,rfl⟩:=hv σ x h1
     refine ⟨.tuple #[],w,σ,fun cs=>?_,Grows.refl σ H,rfl,hs⟩
     cases p <;> simp[builtin,hat,Builtin.clear_,run_und hu]⟩
   have fin: ∀b off len cc,clrb z H k b off len cc=true→(∀σ x,conc σ (evd R a)=some x→ ∃e cap,σ b=some e∧x= .slice (some ⟨e.blk,e.base+off,none⟩) len cap)→ ∃v H',k v H'=true∧OpSpec P rs o R H v H':=fun b off len cc hk hv=>by
    unfold clrb at hk
    rw[bc_eq] at hk
    split at hk
    ·rename_i h0
     refine nothing hk fun σ x hx=>?_
     obtain ⟨e,cap,_,rfl⟩:=hv σ x hx
     rw[beq_iff.1 h0]
     exact ⟨cap,_,rfl⟩
    ·rename_i h0
     have h0':len≠0:=fun e=>h0 (beq_iff.2 e)
     obtain ⟨H',hk1,hst,hsp⟩:=cpyc_ok (P:=P) hk
     refine ⟨undf,H',hk1,opspec_builtin ho hc ha hst fun pr w0 w σ xs hxs hs=>?_⟩
     obtain ⟨x,rfl,h1⟩:=argsR1 hxs
     obtain ⟨en,cap,e1,rfl⟩:=hv σ x h1
     have hzc:concL σ (lrep len z)=some (List.replicate len v.cells.toList).flatten:=by rw[lrep_eq];exact concL_rep (z5 σ) len
     obtain ⟨w',k1,k2,k3⟩:=hsp pr w0 w σ en _ e1 hzc hs
     refine ⟨.tuple #[],w',σ,fun cs=>?_,k2,rfl,k3⟩
     have zc:=zeroCells_eq v.cells len
     obtain ⟨n,rfl⟩: ∃n,len=n+1:=⟨len-1,by omega⟩
     simp[builtin,hat,Builtin.clear_,run_und hu,run_zero z1 z2,zc,k1]
   rcases asSlc_true hk with ⟨h1,hk2⟩|⟨b,off,len,cap,h1,hk2⟩|⟨b,off,len,zz,h1,hk2⟩
   ·exact nothing hk2 fun σ x hx=>by rw[h1] at hx;obtain rfl:=conc_nils hx;exact ⟨0,none,rfl⟩
   ·exact fin b off len cap hk2 fun σ x hx=>by rw[h1] at hx;obtain ⟨e,e1,e2⟩:=conc_sl hx;exact ⟨e,cap,e1,e2⟩
   ·exact fin b off len zz hk2 fun σ x hx=>by rw[h1] at hx;obtain ⟨e,e1,_,_,e2⟩:=conc_su hx;exact ⟨e,_,e1,e2⟩
  ·exact (vfail_run hk).elim
 ·exact (vfail_run hk).elim
end ops
end Go.Ev
namespace Go.Ev
section dec
theorem get_sbyte(len n i:Nat)(h:i<len):((bts (unpack len n)).get! i).toNat=sbyte n i:=by
 have h1:=unpack_get len n i h
 have h2:(bts (unpack len n)).get! i=UInt8.ofNat (sbyte n i):=by
  simp only[bts,ByteArray.get!]
  simp[h1]
 rw[h2,sbyte_eq]
 simp
theorem sdec_eq(len n i:Nat)(h:i<len):sdec len n i=Utf8.decode (bts (unpack len n)) i:=by
 have hsz:(bts (unpack len n)).size=len:=by rw[bts_size,unpack_length]
 have hg: ∀k,i+k<len→((bts (unpack len n)).get! (i+k)).toNat=sbyte n (i+k):=fun k hk=>get_sbyte len n (i+k) hk
 have hc: ∀k,(decide (i+k<len)&&((bts (unpack len n)).get! (i+k)).toNat / 64==2)=(decide (i+k<len)&&sbyte n (i+k) / 64==2):=fun k=>by
  by_cases hk:i+k<len
  ·rw[hg k hk]
  ·simp[hk]
 have hlt: ∀k,(decide (i+k<len)&&sbyte n (i+k) / 64==2)=true→i+k<len:=fun k hk=>by
  simp only[Bool.and_eq_true,decide_eq_true_eq] at hk;exact hk.1
 unfold sdec Utf8.decode
 simp only[hsz,hc,hg 0 (by omega)]
 split
 ·rfl
 ·split
  ·rename_i h2
   simp only[Bool.and_eq_true] at h2
   rw[hg 1 (by have:=h2.2.1;simpa using this)]
  ·split
   ·rename_i h3
    simp only[Bool.and_eq_true] at h3
    rw[hg 1 (by have:=h3.1.2.1;simpa using this),hg 2 (by have:=h3.2.1;simpa using this)]
   ·split
    ·rename_i h4
     simp only[Bool.and_eq_true] at h4
     rw[hg 1 (by have:=h4.1.1.2.1;simpa using this),hg 2 (by have:=h4.1.2.1;simpa using this),hg 3 (by have:=h4.2.1;simpa using this)]
    ·rfl
end dec
section ops
variable {P:Program} {rs:Rs} {o:Oper} {R:Fr}
theorem concL1{σ:Sg}{v:AV}{x:Value}(h:conc σ v=some x):concL σ [v]=some [x]:=concL_cons.2 ⟨x,[],rfl,h,rfl⟩
theorem concL2{σ:Sg}{v u:AV}{x y:Value}(h:conc σ v=some x)(k:conc σ u=some y):concL σ [v,u]=some [x,y]:=concL_cons.2 ⟨x,_,rfl,h,concL1 k⟩
theorem concL3{σ:Sg}{v u t:AV}{x y z:Value}(h:conc σ v=some x)(k:conc σ u=some y)(l:conc σ t=some z):concL σ [v,u,t]=some [x,y,z]:=concL_cons.2 ⟨x,_,rfl,h,concL2 k l⟩
theorem run_getObj{w:World}{b:Nat}{x:Obj}(h:w.heap[b]? =some x)(hx: ∀a t f,x≠ .cells a t f):(getObj b).run P w= .ok x w:=by
 cases x <;> first|(exact absurd rfl (hx _ _ _))|simp[getObj,Sem.run,h]
theorem run_setObj{w:World}{b:Nat}{x:Obj}(y:Obj)(h:w.heap[b]? =some x)(hx: ∀a t f,x≠ .cells a t f):(setObj b y).run P w= .ok () {w with heap:=w.heap.setIfInBounds b y}:=by
 cases x <;> first|(exact absurd rfl (hx _ _ _))|simp[setObj,Sem.run,h]
theorem sNxS{it:Operand}{F:Fs}{d:Od}(ho:o.op= .next it true)(hd:rs it=some d):OShows P rs o (xNxS d) F:=fun R H k hk=>by
 have hx:it∈o.op.operands:=by rw[ho];simp[Op.operands]
 have hnd: ∀c,o.op≠ .defer c:=by intro c hc;rw[ho] at hc;cases hc
 obtain ⟨b,off,h1,hk1⟩:=asPtr_true hk
 obtain ⟨h2,hk2⟩:=chk_iff.1 hk1
 have h2':off=0:=beq_iff.1 h2
 subst h2'
 obtain ⟨len,n,pos,hb,hk3⟩:=hsit_true hk2
 unfold nxSc at hk3
 rw[bc_eq] at hk3
 split at hk3
 ·rename_i hp
  have hp':pos<len:=blt_iff.1 hp
  refine ⟨_,_,hk3,stays_set (by simp),fun r pr w0 σ a w hr hs=>?_⟩
  obtain ⟨e,e1,e2⟩:=one_ptr hr hx hd h1
  have hbr:=hs.dom b e e1
  rw[hb] at hbr
  obtain ⟨hz,hat⟩:=hbr
  have hat:w.heap[e.blk]? =some (.stringIter (bts (unpack len n)) pos):=hat
  have hbut:=but_setObj w e.blk (.stringIter (bts (unpack len n)) (pos+(sdec len n pos).2))
  obtain ⟨k1,k2⟩:=hs.set e1 (by rw[hb];simp) (o:= .siter len n (pos+(sdec len n pos).2)) (by simp) hbut ⟨hz,by simp[getElem?_lt hat,bts]⟩ (fun id x hx hne hbr=>hbr.but' hbut (fun l cl=>by rw[hat];simp) hne)
  refine opRun_value hnd (x:= .tuple #[.bool true,goInt pos, .int .i32 (sdec len n pos).1]) ?_ ⟨σ,k2,?_,k1⟩
  ·rw[hz,Nat.add_zero] at e2
   have hp2:pos<(bts (unpack len n)).size:=by rw[bts_size,unpack_length];exact hp'
   simp only[execOp,ho,e2,Instr.next]
   simp[run_getObj hat (by simp),hp2,run_setObj _ hat (by simp), ←sdec_eq len n pos hp']
  ·simp only[conc]
   rw[concL3 rfl rfl rfl];rfl
 ·rename_i hp
  have hp': ¬pos<len:=fun h=>hp (blt_iff.2 h)
  refine ⟨_,_,hk3,Stays.refl H,fun r pr w0 σ a w hr hs=>?_⟩
  obtain ⟨e,e1,e2⟩:=one_ptr hr hx hd h1
  have hbr:=hs.dom b e e1
  rw[hb] at hbr
  obtain ⟨hz,hat⟩:=hbr
  have hat:w.heap[e.blk]? =some (.stringIter (bts (unpack len n)) pos):=hat
  refine opRun_value hnd (x:= .tuple #[.bool false]) (w':=w) ?_ ⟨σ,Grows.refl σ H,rfl,hs⟩
  rw[hz,Nat.add_zero] at e2
  have hp2: ¬pos<(bts (unpack len n)).size:=by rw[bts_size,unpack_length];exact hp'
  simp only[execOp,ho,e2,Instr.next]
  simp[run_getObj hat (by simp),hp2]
theorem Sim.miter{pr:Nat→Prop}{w0 w:World}{σ:Sg}{H:Hp}(h:Sim pr w0 σ H w){b:Nat}{e:En}(he:σ b=some e){m n0:Nat}{done:Bool}(hb:hget H b= .miter m n0 done):BR σ w e (.miter m n0 done):=by
 have:=h.dom b e he
 rwa [hb] at this
theorem sRngM{t kt et:TypeId}{x:Operand}{d:Od}{F:Fs}(ho:o.op= .range t x)(hu:tund P t=some (.map kt et))(hd:rs x=some d):OShows P rs o (xRngM d) F:=fun R H k hk=>by
 have hx:x∈o.op.operands:=by rw[ho];simp[Op.operands]
 have hnd: ∀c,o.op≠ .defer c:=by intro c hc;rw[ho] at hc;cases hc
 rcases asMap_true hk with ⟨_,hk1⟩|⟨b,h1,hk1⟩
 ·cases hk1
 obtain ⟨es,hb,hk2⟩:=hmap_true hk1
 have hk2':bc (Nat.ble (llen es) 1) (halloc H (.miter b (llen es) false) (kPtr k)) (halloc H (.mitv b (llen es) []) (kPtr k))=true:=hk2
 rw[bc_eq] at hk2'
 split at hk2'
 rotate_left
 ·obtain ⟨b',hb',hk4⟩:=halloc_true hk2'
  refine ⟨_,_,hk4,stays_alloc (by simp),fun r pr w0 σ a w hr hs=>?_⟩
  have e1:=hr x hx d hd
  rw[h1] at e1;obtain ⟨e,e2,e3⟩:=conc_mp e1
  obtain ⟨l,cl,m1,m2⟩:=hs.map e2 hb
  have hcl:cl=llen es:=by rw[m2.clk,llen_eq,m2.u.length]
  subst hcl
  have hmore:=more_push w (.mapIter (some e.blk) (llen es) #[] (llen es))
  obtain ⟨k1,k2⟩:=hs.made (w':= {w with heap:=w.heap.push (.mapIter (some e.blk) (llen es) #[] (llen es))}) hb' (ob:= .mitv b (llen es) []) (e:=⟨w.heap.size,0,0⟩) ⟨hmore,rfl,by simp,⟨rfl,e,e2,by simp⟩⟩
  refine opRun_value hnd (x:= .pointer (some ⟨w.heap.size,0,none⟩)) ?_ ⟨_,k2,by simp[conc,Sg.put_self],k1⟩
  simp[execOp,ho,e3,Instr.range,run_und hu,MapKept.run_getObj_map m1]
 obtain ⟨b',hb',hk4⟩:=halloc_true hk2'
 refine ⟨_,_,hk4,stays_alloc (by simp),fun r pr w0 σ a w hr hs=>?_⟩
 have e1:=hr x hx d hd
 rw[h1] at e1;obtain ⟨e,e2,e3⟩:=conc_mp e1
 obtain ⟨l,cl,m1,m2⟩:=hs.map e2 hb
 have hmore:=more_push w (.mapIter (some e.blk) cl #[] cl)
 have hlt:=getElem?_lt m1
 have hone:llen es=1→ ∃x∈l.toList,x.born<cl∧(if false=true then (#[]:Array Nat)= #[x.born]∧cl=1 else (#[]:Array Nat)= #[]):=fun hn=>by
  have hl:l.toList.length=1:=by rw[←m2.u.length, ←llen_eq];exact hn
  obtain ⟨y,hy⟩: ∃y,y∈l.toList:=List.exists_mem_of_length_pos (by omega)
  exact ⟨y,hy,m2.u.born y hy,by simp⟩
 obtain ⟨k1,k2⟩:=hs.made (w':= {w with heap:=w.heap.push (.mapIter (some e.blk) cl #[] cl)}) hb' (ob:= .miter b (llen es) false) (e:=⟨w.heap.size,0,0⟩) ⟨hmore,rfl,by simp,⟨rfl,e,l,cl,cl, #[],cl,e2,by simp,(hmore.same _ hlt).trans m1,Nat.le_refl _,Nat.le_refl _,hone,fun _=>rfl⟩⟩
 ·refine opRun_value hnd (x:= .pointer (some ⟨w.heap.size,0,none⟩)) ?_ ⟨_,k2,by simp[conc,Sg.put_self],k1⟩
  simp[execOp,ho,e3,Instr.range,run_und hu,MapKept.run_getObj_map m1]
theorem sNxM{it:Operand}{F:Fs}{d:Od}(ho:o.op= .next it false)(hd:rs it=some d):OShows P rs o (xNxM d) F:=fun R H k hk=>by
 have hx:it∈o.op.operands:=by rw[ho];simp[Op.operands]
 have hnd: ∀c,o.op≠ .defer c:=by intro c hc;rw[ho] at hc;cases hc
 obtain ⟨b,off,h1,hk1⟩:=asPtr_true hk
 obtain ⟨h2,hk2⟩:=chk_iff.1 hk1
 have h2':off=0:=beq_iff.1 h2
 subst h2'
 obtain ⟨m,n0,done,hb,hk3⟩:=hmit_true hk2
 obtain ⟨es,hm,hk4⟩:=hmap_true hk3
 unfold nxMd at hk4
 split at hk4
 ·refine ⟨_,_,hk4,Stays.refl H,fun r pr w0 σ a w hr hs=>?_⟩
  obtain ⟨e,e1,e2⟩:=one_ptr hr hx hd h1
  obtain ⟨hz,em,l,cl,si,se,st,q1,q2,q3,q4,q5,q6,q7⟩:=hs.miter e1 hb
  obtain ⟨l',cl',m1,m2⟩:=hs.map q1 hm
  rw[q3] at m1;simp only[Option.some.injEq,Obj.map.injEq] at m1;obtain ⟨rfl,rfl⟩:=m1
  have hl:l= #[]:=by
   have:=m2.u.length
   apply Array.toList_inj.1
   exact List.eq_nil_of_length_eq_zero this.symm
  subst hl
  refine opRun_value hnd (x:= .tuple #[.bool false]) (w':=w) ?_ ⟨σ,Grows.refl σ H,rfl,hs⟩
  rw[hz,Nat.add_zero] at e2
  simp only[execOp,ho,e2,Instr.next]
  simp[run_getObj q2 (by simp),MapKept.run_getObj_map q3,choose,Sem.run,Question.forced]
 ·rename_i p
  obtain ⟨c1,hk5⟩:=chk_iff.1 hk4
  have c1':n0=1:=beq_iff.1 c1
  subst c1'
  have one: ∀(pr:Nat→Prop) (w0 w:World) (σ:Sg) (e:En),σ b=some e→Sim pr w0 σ H w→ ∃em x si se st,e.base=0∧σ m=some em∧w.heap[e.blk]? =some (.mapIter (some em.blk) si se st)∧w.heap[em.blk]? =some (.map #[x] 1)∧x.born=0∧0<si∧si≤1∧st≤1∧
   (if done then se= #[0]∧st=1 else se= #[])∧conc σ p.1=some x.key∧conc σ p.2=some x.val:=fun pr w0 w σ e e1 hs=>by
   obtain ⟨hz,em,l,cl,si,se,st,q1,q2,q3,q4,q5,q6,q7⟩:=hs.miter e1 hb
   obtain ⟨l',cl',m1,m2⟩:=hs.map q1 hm
   rw[q3] at m1;simp only[Option.some.injEq,Obj.map.injEq] at m1;obtain ⟨rfl,rfl⟩:=m1
   obtain ⟨x,hx⟩: ∃x,l.toList=[x]:=List.length_eq_one_iff.1 (by rw[←m2.u.length];rfl)
   have hl:l= #[x]:=Array.toList_inj.1 hx
   subst hl
   have hcl:cl=1:=by rw[m2.clk];rfl
   subst hcl
   obtain ⟨y,y1,y2⟩:=m2.u.left x (by simp)
   simp at y1;subst y1
   have hb0:=m2.u.born x (by simp)
   obtain ⟨z,z1,z2,z3⟩:=q6 rfl
   simp at z1;subst z1
   have hb1:z.born=0:=by omega
   exact ⟨em,z,si,se,st,hz,q1,q2,q3,hb1,by omega,q4,q5,by rw[hb1] at z3;exact z3,y2.1,y2.2⟩
  rw[bc_eq] at hk5
  split at hk5
  ·rename_i hdone
   subst hdone
   refine ⟨_,_,hk5,Stays.refl H,fun r pr w0 σ a w hr hs=>?_⟩
   obtain ⟨e,e1,e2⟩:=one_ptr hr hx hd h1
   obtain ⟨em,x,si,se,st,hz,q1,q2,q3,q4,q5,q6,q7,q8,q9,q10⟩:=one pr w0 w σ e e1 hs
   simp only[if_true] at q8
   obtain ⟨rfl,rfl⟩:=q8
   refine opRun_value hnd (x:= .tuple #[.bool false]) (w':=w) ?_ ⟨σ,Grows.refl σ H,rfl,hs⟩
   rw[hz,Nat.add_zero] at e2
   simp only[execOp,ho,e2,Instr.next]
   simp[run_getObj q2 (by simp),MapKept.run_getObj_map q3,choose,Sem.run,Question.forced,q4]
  ·rename_i hdone
   have hdone':done=false:=by simpa using hdone
   subst hdone'
   refine ⟨_,_,hk5,stays_set (by simp),fun r pr w0 σ a w hr hs=>?_⟩
   obtain ⟨e,e1,e2⟩:=one_ptr hr hx hd h1
   obtain ⟨em,x,si,se,st,hz,q1,q2,q3,q4,q5,q6,q7,q8,q9,q10⟩:=one pr w0 w σ e e1 hs
   simp only[Bool.false_eq_true,if_false] at q8
   subst q8
   obtain rfl:si=1:=by omega
   have hbut:=but_setObj w e.blk (.mapIter (some em.blk) 1 #[0] 1)
   have hne:em.blk≠e.blk:=fun h=>by rw[h,q2] at q3;cases q3
   obtain ⟨k1,k2⟩:=hs.set e1 (by rw[hb];simp) (o:= .miter m 1 true) (by simp) hbut ⟨hz,em, #[x],1,1, #[0],1,q1,by simp[getElem?_lt q2],(hbut.same _ hne).trans q3,q6,Nat.le_refl _,fun _=>⟨x,by simp,by omega,by simp[q4]⟩,fun h=>by cases h⟩ (fun id x hx hne hbr=>hbr.but' hbut (fun l cl=>by rw[q2];simp) hne)
   refine opRun_value hnd (x:= .tuple #[.bool true,x.key,x.val]) ?_ ⟨σ,k2,?_,k1⟩
   ·rw[hz,Nat.add_zero] at e2
    simp only[execOp,ho,e2,Instr.next]
    simp[run_getObj q2 (by simp),MapKept.run_getObj_map q3,choose,Sem.run,Question.forced,q4,run_setObj _ q2 (by simp)]
   ·simp only[conc]
    rw[concL3 rfl q9 q10];rfl
 ·cases hk4
theorem EntsR.get{σ:Sg}: ∀ {es:List (AV × AV)} {l:List MapEntry},EntsR σ es l→ ∀(i:Nat) (p:AV × AV),es[i]? =some p→ ∃y,l[i]? =some y∧EntR σ p y
 |[],_,_,i,p,h=>by simp at h
 |_::_,[],k,_,_,_=>k.elim
 |a::es,e::l,k,i,p,h=>by
  cases i with
  |zero=>simp at h;subst h;exact ⟨e,rfl,k.1⟩
  |succ i=>simpa using EntsR.get k.2 i p (by simpa using h)
theorem sEnt{it:Operand}{F:Fs}{d:Od}(ho:o.op= .entry it)(hd:rs it=some d):OShows P rs o (xEnt d) F:=fun R H k hk=>by
 have hx:it∈o.op.operands:=by rw[ho];simp[Op.operands]
 have hnd: ∀c,o.op≠ .defer c:=by intro c hc;rw[ho] at hc;cases hc
 obtain ⟨b,off,h1,hk1⟩:=asPtr_true hk
 obtain ⟨h2,hk2⟩:=chk_iff.1 hk1
 have h2':off=0:=beq_iff.1 h2
 subst h2'
 rcases hmi2_true hk2 with ⟨m,n0,done,hb,hk3⟩|⟨m,n,seen,hb,hk3⟩
 rotate_left
 ·unfold entvc at hk3
  split at hk3
  ·rename_i i rest
   obtain ⟨es,hm,hk4⟩:=hmap_true hk3
   obtain ⟨c1,hk5⟩:=chk_iff.1 hk4
   have c1':es.length=n:=by rw[←llen_eq];exact beq_iff.1 c1
   split at hk5
   ·rename_i p hp
    refine ⟨_,_,hk5,Stays.refl H,fun r pr w0 σ a w hr hs=>?_⟩
    obtain ⟨e,e1,e2⟩:=one_ptr hr hx hd h1
    have hbr:=hs.dom b e e1
    rw[hb] at hbr
    obtain ⟨hz,em,q1,q2⟩:=hbr
    obtain ⟨l,cl,m1,m2⟩:=hs.map q1 hm
    have hlen:=m2.u.length
    obtain ⟨y,y1,y2⟩:=m2.ents.get i p (by rw[←lgetO_eq];exact hp)
    have hyb:=m2.num i y y1
    have hcl:cl=n:=by rw[m2.clk, ←hlen,c1']
    subst hcl
    have hrun:=run_entry_at (P:=P) w e.blk em.blk cl rest.reverse.toArray l cl y (by rw[q2,hyb];simp) m1 (List.mem_of_getElem? y1) m2.u.borns
    refine opRun_value hnd (x:= .tuple #[y.key,y.val]) (w':=w) ?_ ⟨σ,Grows.refl σ H,?_,hs⟩
    ·rw[hz,Nat.add_zero] at e2
     simp only[execOp,ho,e2]
     simp[hrun]
    ·simp only[conc]
     rw[concL2 y2.1 y2.2];rfl
   ·cases hk5
  ·cases hk3
 obtain ⟨hdone,hk4⟩:=chk_iff.1 hk3
 obtain ⟨c1,hk5⟩:=chk_iff.1 hk4
 have c1':n0=1:=beq_iff.1 c1
 subst hdone c1'
 obtain ⟨es,hm,hk6⟩:=hmap_true hk5
 unfold entd at hk6
 split at hk6
 ·rename_i p
  refine ⟨_,_,hk6,Stays.refl H,fun r pr w0 σ a w hr hs=>?_⟩
  obtain ⟨e,e1,e2⟩:=one_ptr hr hx hd h1
  obtain ⟨hz,em,l,cl,si,se,st,q1,q2,q3,q4,q5,q6,q7⟩:=hs.miter e1 hb
  obtain ⟨l',cl',m1,m2⟩:=hs.map q1 hm
  rw[q3] at m1;simp only[Option.some.injEq,Obj.map.injEq] at m1;obtain ⟨rfl,rfl⟩:=m1
  obtain ⟨x,hx⟩: ∃x,l.toList=[x]:=List.length_eq_one_iff.1 (by rw[←m2.u.length];rfl)
  have hl:l= #[x]:=Array.toList_inj.1 hx
  subst hl
  have hcl:cl=1:=by rw[m2.clk];rfl
  subst hcl
  obtain ⟨y,y1,y2⟩:=m2.u.left x (by simp)
  simp at y1;subst y1
  obtain ⟨z,z1,z2,z3⟩:=q6 rfl
  simp at z1;subst z1
  simp only[if_true] at z3
  obtain ⟨rfl,rfl⟩:=z3
  refine opRun_value hnd (x:= .tuple #[z.key,z.val]) (w':=w) ?_ ⟨σ,Grows.refl σ H,?_,hs⟩
  ·rw[hz,Nat.add_zero] at e2
   simp only[execOp,ho,e2,Instr.entry]
   simp[run_getObj q2 (by simp),MapKept.run_getObj_map q3]
  ·simp only[conc]
   rw[concL2 y2.1 y2.2];rfl
 ·cases hk6
theorem run_shape{w:World}{b:Nat}{arr:Array Value}{el:TypeId}{fz:Nat × Nat}(h:w.heap[b]? =some (.cells arr el fz)):(shape b).run P w= .ok (some (el,arr.size)) w:=by
 simp[shape,Sem.run,World.shape?,h]
theorem shape_cells{w:World}{b:Nat}{arr:Array Value}{el:TypeId}{fz:Nat × Nat}(h:w.heap[b]? =some (.cells arr el fz)):w.shape? b=some (el,arr.size):=by
 simp[World.shape?,h]
theorem run_seenAt{w:World}{b i:Nat}{arr:Array Value}{el:TypeId}{fz:Nat × Nat}(h:w.heap[b]? =some (.cells arr el fz)):(Conv.seenAt ⟨b,i,none⟩).run P w= .ok ⟨b,i,none⟩ w:=by
 simp[Conv.seenAt,viewAt,run_shape h]
theorem sCPU{s t e:TypeId}{x:Operand}{d:Od}{n:Nat}(ho:o.op= .convert s t x)(hs:tund P s=some (.pointer e))(ht:tund P t=some .unsafePointer)(hn:szO P e=some n)(h0:n≠0)(hd:rs x=some d):RShows P rs o (xCPU d):=fun F R H k hk=>by
 have hx:x∈o.op.operands:=by rw[ho];simp[Op.operands]
 obtain ⟨b,off,h1,hk1⟩:=asPtr_true hk
 obtain ⟨el,sp,c,hb,hk2⟩:=hcells_true hk1
 obtain ⟨h3,hk3⟩:=chk_iff.1 hk2
 have h3':off<c.n:=blt_iff.1 h3
 have hbk:blkOf (evd R d)=some b:=by rw[h1];rfl
 refine ⟨d,_,by simpa[readAt,ho] using hd,hk3,⟨(by intro c hc;rw[ho] at hc;cases hc),fun σ a w hr hsim=>?_⟩,fun b' hb'=>by rw[hbk] at hb';cases hb';rw[hb];simp⟩
 obtain ⟨en,e1,e2⟩:=one_ptr hr hx hd h1
 obtain ⟨arr,fz,hc⟩:=(hsim b hbk).cells e1 hb
 refine ⟨.pointer (some ⟨en.blk,en.base+off,none⟩),by simp[conc,e1],?_⟩
 have hlt: ¬(arr.size≤en.base+off):=by have:=hc.le;have:=hc.room;omega
 simp[execOp,ho,e2,convert,run_und hs,run_und ht,Conv.unsafePointer,run_seenAt hc.at_,cellsIn,shape_cells hc.at_,run_sizeOf' hn,h0,hlt]
theorem sCUP{s t u:TypeId}{x:Operand}{d:Od}{n:Nat}(ho:o.op= .convert s t x)(hs:tund P s=some .unsafePointer)(ht:tund P t=some (.pointer u))(hn:szO P u=some n)(h0:n≠0)(hd:rs x=some d):
 RShows P rs o (xCUP (fun el n off=>liesAt P P.depth el (n / P.cellsOf el) off u 1) d):=fun F R H k hk=>by
 have hx:x∈o.op.operands:=by rw[ho];simp[Op.operands]
 obtain ⟨b,off,h1,hk1⟩:=asPtr_true hk
 obtain ⟨el,sp,c,hb,hk2⟩:=hcells_true hk1
 obtain ⟨h3,hk3⟩:=chk_iff.1 hk2
 obtain ⟨h4,hk4⟩:=chk_iff.1 hk3
 have h3':sp=false:=by rw[bnot_eq] at h3;simpa using h3
 subst h3'
 have hbk:blkOf (evd R d)=some b:=by rw[h1];rfl
 refine ⟨d,_,by simpa[readAt,ho] using hd,hk4,⟨(by intro c hc;rw[ho] at hc;cases hc),fun σ a w hr hsim=>?_⟩,fun b' hb'=>by rw[hbk] at hb';cases hb';rw[hb];simp⟩
 obtain ⟨en,e1,e2⟩:=one_ptr hr hx hd h1
 obtain ⟨arr,fz,hc⟩:=(hsim b hbk).cells e1 hb
 obtain ⟨w1,w2,w3⟩:=hc.whole rfl
 refine ⟨.pointer (some ⟨en.blk,en.base+off,none⟩),by simp[conc,e1],?_⟩
 rw[w1,Nat.zero_add] at e2 ⊢
 rw[←w2] at h4
 simp[execOp,ho,e2,convert,run_und hs,run_und ht,Conv.unsafePointer,run_seenAt hc.at_,run_sizeOf' hn,h0,variablesAt,program,Sem.run,shape_cells hc.at_,h4]
theorem lies_bytes{e:TypeId}(hc:P.cellsOf e=1)(count off n:Nat)(hn:off+n≤count):liesAt P P.depth e count off e n=true:=by
 have hd:P.depth=(2*(P.types.size+Made.depth)+1)+1:=rfl
 rw[hd]
 simp only[liesAt,Bool.or_eq_true]
 left
 rw[hd]
 simp[rowAt,hc,hn,sameLayout,Nat.mod_one]
theorem sUSD{c:Go.Call}{F:Fs}(ho:o.op= .call c)(hc:c.callee= .builtin .unsafeSliceData){a:Od}(ha:prepOds rs c.args.toList=some [a]):OShows P rs o (xUSD a) F:=fun R H k hk=>by
 have fin: ∀b off len (cap':Nat),k (.ptr b off) H=true→(∀σ x,conc σ (evd R a)=some x→ ∃e cap,σ b=some e∧cap≠0∧x= .slice (some ⟨e.blk,e.base+off,none⟩) len cap)→ ∃v H',k v H'=true∧OpSpec P rs o R H v H':=fun b off len _ hk hv=>by
  refine ⟨_,H,hk,opspec_builtin ho hc ha (Stays.refl H) fun pr w0 w σ xs hxs hs=>?_⟩
  obtain ⟨x,rfl,h1⟩:=argsR1 hxs
  obtain ⟨e,cap,q1,q2,rfl⟩:=hv σ x h1
  refine ⟨.pointer (some ⟨e.blk,e.base+off,none⟩),w,σ,fun cs=>?_,Grows.refl σ H,by simp[conc,q1],hs⟩
  simp only[builtin,Sem.run_bind]
  rw[show ([Value.slice (some ⟨e.blk,e.base+off,none⟩) len cap].toArray)= #[.slice (some ⟨e.blk,e.base+off,none⟩) len cap] from rfl,Lib.run_unsafeSliceData_row w _ _ _ _ _ q2];rfl
 rcases asSlc_true hk with ⟨h1,hk2⟩|⟨b,off,len,cap,h1,hk2⟩|⟨b,off,len,z,h1,hk2⟩
 ·refine ⟨_,H,hk2,opspec_builtin ho hc ha (Stays.refl H) fun pr w0 w σ xs hxs hs=>?_⟩
  obtain ⟨x,rfl,h3⟩:=argsR1 hxs
  rw[h1] at h3;obtain rfl:=conc_nils h3
  refine ⟨.pointer none,w,σ,fun cs=>?_,Grows.refl σ H,rfl,hs⟩
  simp only[builtin,Sem.run_bind]
  rw[show ([Value.slice none 0 0].toArray)= #[.slice none 0 0] from rfl,Lib.run_unsafeSliceData_nil];rfl
 ·unfold uSDa at hk2
  rw[bc_eq] at hk2
  split at hk2
  ·cases hk2
  ·rename_i h0
   exact fin b off len 0 hk2 fun σ x hx=>by rw[h1] at hx;obtain ⟨e,e1,e2⟩:=conc_sl hx;exact ⟨e,cap,e1,fun h=>h0 (beq_iff.2 h),e2⟩
 ·unfold uSDb at hk2
  rw[bc_eq] at hk2
  split at hk2
  ·cases hk2
  ·rename_i h0
   refine fin b off len 0 hk2 fun σ x hx=>?_
   rw[h1] at hx;obtain ⟨e,e1,e3,e4,e2⟩:=conc_su hx
   refine ⟨e,_,e1,?_,e2⟩
   have hl:0<len:=by
    rcases Nat.eq_zero_or_pos len with h|h
    ·exact absurd (beq_iff.2 h) h0
    ·exact h
   have:z≤e.tot-off:=by
    have:1*z≤len*z:=Nat.mul_le_mul_right _ hl
    omega
   have:=Nat.div_pos this e3
   omega
theorem run_unsafeString{pt ty e:TypeId}{ts:Array TypeId}(hts:ts[0]? =some pt)(hp:P.underlying pt=some (.pointer e))(hc:P.cellsOf e=1){w:World}{g off:Nat}{arr:Array Value}{fz:Nat × Nat}(hg:w.heap[g]? =some (.cells arr e fz))(l:List UInt8)(h0:l≠[])(hn:off+l.length≤arr.size)
 (h63:l.length≤9223372036854775807) (j:IntKind) (hcell: ∀j x,l[j]? =some x→w.cell? ((⟨g,off,none⟩:Addr).add j)=some (.int .u8 x.toNat)):
 (Builtin.unsafeString_ ts ty #[.pointer (some ⟨g,off,none⟩), .int j l.length]).run P w= .ok (.string ⟨l.toArray⟩) (w.freeze ⟨g,off,none⟩ l.length):=by
 have hl:l.length≠0:=by simpa using h0
 have hlb:=Lib.run_loadBytes (P:=P) w l ⟨g,off,none⟩ .empty hcell
 have hlies:=lies_bytes (P:=P) hc (arr.size / P.cellsOf e) off l.length (by rw[hc];simpa using hn)
 have h63': ¬(9223372036854775807:Int)<(l.length:Int):=by omega
 have hmax:IntKind.i64.max=9223372036854775807:=rfl
 show (bind (Go.asInt (.int j l.length)) _:Sem Value).run P w=_
 simp[Go.asInt,asIntOf,hts,hmax,h63',hl,elemOf,run_underlying hp,variablesAt,program,Sem.run,shape_cells hg,hlies,hlb,freeze]
 intro h;omega
theorem run_unsafeString0{pt ty:TypeId}{ts:Array TypeId}(hts:ts[0]? =some pt)(w:World)(p:Option Addr)(j:IntKind):(Builtin.unsafeString_ ts ty #[.pointer p, .int j (0:Nat)]).run P w= .ok (.string .empty) w:=by
 have hmax:IntKind.i64.max=9223372036854775807:=rfl
 cases p with
 |none=>
  show (bind (Go.asInt (.int j (0:Nat))) _:Sem Value).run P w=_
  simp[Go.asInt,asIntOf,hts,hmax]
 |some a=>
  show (bind (Go.asInt (.int j (0:Nat))) _:Sem Value).run P w=_
  simp[Go.asInt,asIntOf,hts,hmax]
theorem but_freeze(w:World)(b off n:Nat):But b w (w.freeze ⟨b,off,none⟩ n):=by
 unfold World.freeze
 split
 ·exact But.refl b w
 ·exact ⟨rfl,rfl,rfl,by simp,fun k hk=>by simp[Array.getElem?_modify,Ne.symm hk]⟩
theorem sUStr{c:Go.Call}{F:Fs}(ho:o.op= .call c)(hc:c.callee= .builtin .unsafeString){a n:Od}(ha:prepOds rs c.args.toList=some [a,n]){t:TypeId}{ts:List TypeId}(ht:c.argTypes.toList=t::ts):OShows P rs o (pUStr P t a n) F:=fun R H k hk=>by
 have hts:c.argTypes[0]? =some t:=by rw[←Array.getElem?_toList,ht];rfl
 unfold pUStr at hk
 split at hk
 ·rename_i u hu
  split at hk
  ·rename_i hu8 hsz
   obtain ⟨i,i1,i2⟩:=szO_some hsz
   have hcells:P.cellsOf u=1:=by simp[Program.cellsOf,i1,i2]
   obtain ⟨j,len,e1,hk1⟩:=ix_true hk
   have zero:len=0→k (.str 0 0) H=true→(∀σ x,conc σ (evd R a)=some x→ ∃p,x= .pointer p)→ ∃v H',k v H'=true∧OpSpec P rs o R H v H':=fun h0 hk hv=>by
    subst h0
    refine ⟨_,H,hk,opspec_builtin ho hc ha (Stays.refl H) fun pr w0 w σ xs hxs hs=>?_⟩
    obtain ⟨x,y,rfl,h1,h2⟩:=argsR2 hxs
    rw[e1] at h2;obtain rfl:=conc_int h2
    obtain ⟨p,rfl⟩:=hv σ x h1
    refine ⟨.string .empty,w,σ,fun cs=>?_,Grows.refl σ H,rfl,hs⟩
    simp only[builtin,Sem.run_bind]
    rw[show ([Value.pointer p,Value.int j ((0:Nat):Int)].toArray)= #[.pointer p, .int j ((0:Nat):Int)] from rfl,run_unsafeString0 hts];rfl
   rcases ptrOrNil_true hk1 with ⟨h1,hk2⟩|⟨b,off,h1,hk2⟩
   ·obtain ⟨h0,hk3⟩:=chk_iff.1 hk2
    exact zero (beq_iff.1 h0) hk3 fun σ x hx=>by rw[h1] at hx;simp only[conc,Option.some.injEq] at hx;exact ⟨none,hx.symm⟩
   ·have hptr: ∀σ x,conc σ (evd R a)=some x→ ∃e,σ b=some e∧x= .pointer (some ⟨e.blk,e.base+off,none⟩):=fun σ x hx=>by
     rw[h1] at hx;simp only[conc] at hx
     cases hs:σ b with
     |none=>simp[hs] at hx
     |some e=>simp[hs] at hx;exact ⟨e,rfl,hx.symm⟩
    unfold uStrb at hk2
    rw[bc_eq] at hk2
    split at hk2
    ·rename_i h0
     exact zero (beq_iff.1 h0) hk2 fun σ x hx=>let ⟨e,_,h⟩:=hptr σ x hx;⟨_,h⟩
    ·rename_i h0
     obtain ⟨el,sp,c',hb,hk3⟩:=hcells_true hk2
     obtain ⟨h2,hk4⟩:=chk_iff.1 hk3
     obtain ⟨h2a,h2b⟩:=chk_iff.1 h2
     have h2':el=u:=beq_iff.1 h2a
     have h63:len≤9223372036854775807:=ble_iff.1 h2b
     subst h2'
     obtain ⟨h3,hk5⟩:=clist_true hk4
     obtain ⟨bs,hk6,h5⟩:=packL_true hk5
     have hlen:bs.length=len:=by
      have:=concL_length (h5 fun _=>none)
      simpa using this
     refine ⟨_,_,hk6,opspec_builtin ho hc ha (stays_set (by simp)) fun pr w0 w σ xs hxs hs=>?_⟩
     obtain ⟨x,y,rfl,q1,q2⟩:=argsR2 hxs
     rw[e1] at q2;obtain rfl:=conc_int q2
     obtain ⟨e,e2,rfl⟩:=hptr σ x q1
     obtain ⟨arr,fz,hcr⟩:=hs.cells e2 hb
     obtain ⟨ys,y1,y2,y3⟩:=hcr.reads h3
     have hys:ys=bs.map fun b=>Value.int .u8 b.toNat:=by
      have:=(h5 σ).symm.trans y1
      exact (Option.some.inj this).symm
     have hbne:bs≠[]:=fun h=>h0 (beq_iff.2 (by rw[←hlen,h];rfl))
     have hrun:=run_unsafeString (P:=P) (ty:=o.type) hts (tund_some hu) hcells hcr.at_ (off:=e.base+off) bs hbne (by have:=hcr.le;have:=hcr.room;omega) (by omega) j (fun q x hx=>y3 q _ (by rw[hys];simp[hx]))
     have hbut:=but_freeze w e.blk (e.base+off) bs.length
     obtain ⟨k1,k2⟩:=hs.set e2 (by rw[hb];simp) (o:= .dead) (by simp) hbut trivial (fun id x hx hne hbr=>hbr.but' hbut (fun l cl=>by rw[hcr.at_];simp) hne)
     refine ⟨.string (bts bs),_,σ,fun cs=>?_,k2,?_,k1⟩
     ·simp only[builtin,Sem.run_bind]
      rw[show ([Value.pointer (some ⟨e.blk,e.base+off,none⟩),Value.int j (len:Int)].toArray)= #[.pointer (some ⟨e.blk,e.base+off,none⟩), .int j (bs.length:Int)] by rw[hlen],hrun];rfl
     ·simp only[conc]
      rw[←hlen,packB_unpack];rfl
  ·exact (vfail_run hk).elim
 ·exact (vfail_run hk).elim
end ops
end Go.Ev
namespace Go.Ev
section specs
def CallPost(pr:Nat→Prop)(w0:World)(σ:Sg)(H:Hp)(v:AV)(H':Hp):Ending→World→Prop
 | .returned x,w'=> ∃τ,Grows σ H τ H'∧conc τ v=some x∧Sim pr w0 τ H' w'
 |_,_=>False
def FunSpec(P:Program)(f:Nat)(args:List AV)(H:Hp)(v:AV)(H':Hp):Prop:=
 Stays H H'∧ ∀(pr:Nat→Prop) (w0:World) (σ:Sg) (w:World) (xs:List Value),concL σ args=some xs→Sim pr w0 σ H w→Calls P f xs.toArray w (CallPost pr w0 σ H v H')
def YieldSpec(P:Program)(b:Nat)(args:List AV)(H:Hp)(v:AV)(H':Hp):Prop:=
 Stays H H'∧ ∀(pr:Nat→Prop) (w0:World) (σ:Sg) (w:World) (xs:List Value) (e:En),concL σ args=some xs→σ b=some e→Sim pr w0 σ H w→
  ∃f tmps assign body,(Instr.yield e.blk xs.toArray).run P w= .ok (.round e.blk f tmps assign body) w∧ ∀n,RoundIn Fence.wide n P e.blk f tmps assign body w (CallPost pr w0 σ H v H')
structure FSound (P:Program) (F:Fs):Prop where
 func: ∀f args H k,F (.func f) args H k=true→ ∃v H',k v H'=true∧FunSpec P f args H v H'
 yield: ∀b args H k,F (.yield b) args H k=true→ ∃v H',k v H'=true∧YieldSpec P b args H v H'
def ExtSpec(P:Program)(f:Nat)(args:List AV)(H:Hp)(v:AV)(H':Hp):Prop:=
 Stays H H'∧ ∀(pr:Nat→Prop) (w0:World) (σ:Sg) (w:World) (xs:List Value),concL σ args=some xs→Sim pr w0 σ H w→
  ∃x w',(callFunc f xs.toArray).run P w= .ok (.value x) w'∧CallPost pr w0 σ H v H' (.returned x) w'
def XSound(P:Program)(X:Nat→Option Call):Prop:= ∀f x,X f=some x→ ∀args H k,x args H k=true→ ∃v H',k v H'=true∧ExtSpec P f args H v H'
def SSound(P:Program)(S:Nat→Option Call):Prop:= ∀f x,S f=some x→ ∀args H k,x args H k=true→ ∃v H',k v H'=true∧FunSpec P f args H v H'
end specs
section ops
variable {P:Program} {rs:Rs} {o:Oper} {R:Fr}
theorem opRun_enter{r:Option Nat}{a:Act}{w w':World}{f:FuncId}{args:Array Value}{post:Value→World→Prop}(hd: ∀c,o.op≠ .defer c)
 (h:(execOp a.eval o).run P w= .ok (.enter f args) w') {Q:Ending→World→Prop} (hc:Calls P f args w' Q) (hq: ∀e u,Q e u→ ∃x,e= .returned x∧post x u):OpRun P r o a w post:=fun n Q'=>by
 refine ⟨fun _ _=>trivial,?_⟩
 rw[Oper.semAt_eq _ _ _ hd,h]
 refine ⟨fw_depth r n,?_⟩
 have h1:CallsIn (fw r) (n-1) P f args w' Q:=(callsIn_wide (n:=n-1)).2 hc
 refine CallsIn.mono h1 fun e u he=>?_
 obtain ⟨x,rfl,hx⟩:=hq e u he
 exact ⟨x,rfl,hx⟩
theorem opRun_round{r:Option Nat}{a:Act}{w w':World}{l:Nat}{f:FuncId}{tmps:Array Value}{assign body:Code}{post:Value→World→Prop}(hd: ∀c,o.op≠ .defer c)
 (h:(execOp a.eval o).run P w= .ok (.round l f tmps assign body) w') {Q:Ending→World→Prop} (hc: ∀n,RoundIn Fence.wide n P l f tmps assign body w' Q) (hq: ∀e u,Q e u→ ∃x,e= .returned x∧post x u):OpRun P r o a w post:=fun n Q'=>by
 refine ⟨fun _ _=>trivial,?_⟩
 rw[Oper.semAt_eq _ _ _ hd,h]
 refine ⟨fw_depth r n,?_⟩
 have h1:RoundIn (fw r) (n-1) P l f tmps assign body w' Q:=hc (n-1)
 refine RoundIn.mono h1 fun e u he=>?_
 obtain ⟨x,rfl,hx⟩:=hq e u he
 exact ⟨x,rfl,hx⟩
theorem callPost_ret{pr:Nat→Prop}{w0:World}{σ:Sg}{H:Hp}{v:AV}{H':Hp}{e:Ending}{u:World}(h:CallPost pr w0 σ H v H' e u): ∃x,e= .returned x∧ ∃τ,Grows σ H τ H'∧conc τ v=some x∧Sim pr w0 τ H' u:=by
 cases e with
 |returned x=>exact ⟨x,rfl,h⟩
 |panicked c=>exact h.elim
 |outgrown=>exact h.elim
theorem isGo_some{f:Nat}(h:isGo P f=true)(args:Array Value)(w:World):(callFunc f args).run P w= .ok (.enter f args) w:=by
 unfold isGo at h
 split at h
 ·rename_i fn hf
  simp only[Bool.and_eq_true] at h
  have h1:=tfunc_some hf
  have h2: ¬fn.name= "runtime.NumGoroutine" := by simpa using h.2
  have h3: ¬fn.body=none:=by
   intro e;rw[e] at h;simp at h
  simp[callFunc,program,Sem.run,h1,h2,h3]
 ·cases h
theorem args_ops{c:Go.Call}(ho:o.op= .call c): ∀x∈c.args.toList,x∈o.op.operands:=fun x hx=>by
 rw[ho];simp only[Op.operands,Call.operands]
 split <;> simp <;> first|exact .inr (by simpa using hx)|exact .inl (by simpa using hx)|simpa using hx
theorem run_value{c:Go.Call}{g:Operand}(ho:o.op= .call c)(hc:c.callee= .value g){a:Act}{f:Fn}{first captured:Array Value}(hg:a.eval g= .func f first captured)(w:World):
 (execOp a.eval o).run P w=(invoke (.fn f captured) (first++c.args.map a.eval)).run P w:=by
 simp only[execOp,ho,resolve,hc,Sem.run_bind,Deferred.ofValue,hg,Sem.run_pure,Result.andThen_ok]
theorem map_args(c:Go.Call)(a:Act):(c.args.toList.map a.eval).toArray=c.args.map a.eval:=Array.toList_inj.1 (by simp)
theorem fun_op{c:Go.Call}{H H':Hp}{v:AV}{f:Nat}{args:List AV}(ho:o.op= .call c)(hs:FunSpec P f args H v H')
 (h: ∀(σ:Sg) (a:Act) (w:World),OdR σ rs R o a→ ∃xs,concL σ args=some xs∧(execOp a.eval o).run P w= .ok (.enter f xs.toArray) w):OpSpec P rs o R H v H':=
 ⟨hs.1,fun r pr w0 σ a w hr hsim=>by
  obtain ⟨xs,h1,h2⟩:=h σ a w hr
  exact opRun_enter (by intro c hc;rw[ho] at hc;cases hc) h2 (hs.2 pr w0 σ w xs h1 hsim) fun e u he=>callPost_ret he⟩
theorem sCallF{X:Nat→Option Call}{F:Fs}(hX:XSound P X)(hF:FSound P F){c:Go.Call}{f:Nat}(ho:o.op= .call c)(hc:c.callee= .value (.func f)){args:List Od}(ha:prepOds rs c.args.toList=some args):OShows P rs o (pCallF P X f args) F:=fun R H k hk=>by
 have hrun: ∀(a:Act) (w:World),(execOp a.eval o).run P w=(callFunc f (c.args.map a.eval)).run P w:=fun a w=>by
  rw[run_value ho hc (a:=a) (f:= .func f) (first:= #[]) (captured:= #[]) rfl]
  simp[invoke]
 unfold pCallF at hk
 split at hk
 ·rename_i x hx
  obtain ⟨v,H',hk1,hs⟩:=hX f x hx _ H k hk
  refine ⟨v,H',hk1,hs.1,fun r pr w0 σ a w hr hsim=>?_⟩
  obtain ⟨y,w',h1,h2⟩:=hs.2 pr w0 σ w _ (prepOds_conc hr ha (args_ops ho)) hsim
  rw[map_args] at h1
  exact opRun_value (by intro c hc;rw[ho] at hc;cases hc) (by rw[hrun,h1]) h2
 ·rw[bc_eq] at hk
  split at hk
  ·rename_i hg
   obtain ⟨v,H',hk1,hs⟩:=hF.func f _ H k hk
   refine ⟨v,H',hk1,fun_op ho hs fun σ a w hr=>⟨_,prepOds_conc hr ha (args_ops ho),?_⟩⟩
   rw[hrun,isGo_some hg,map_args]
  ·exact (vfail_run hk).elim
theorem conc_fn{σ:Sg}{f:Fn}{a c:List AV}{x:Value}(h:conc σ (.fn f a c)=some x): ∃g xs ys,concF σ f=some g∧concL σ a=some xs∧concL σ c=some ys∧x= .func g xs.toArray ys.toArray:=by
 simp only[conc] at h
 split at h
 ·rename_i g xs ys h1 h2 h3
  exact ⟨g,xs,ys,h1,h2,h3,(Option.some.inj h).symm⟩
 ·cases h
theorem sCallV{F:Fs}(hF:FSound P F){c:Go.Call}{g:Operand}(ho:o.op= .call c)(hc:c.callee= .value g){args:List Od}(ha:prepOds rs c.args.toList=some args){d:Od}(hd:rs g=some d):OShows P rs o (xCallV (isGo P) d args) F:=fun R H k hk=>by
 have hg:g∈o.op.operands:=by rw[ho];simp[Op.operands,Call.operands,hc]
 obtain ⟨f,first,captured,h1,hk1⟩:=asFn_true hk
 have hv: ∀(σ:Sg) (a:Act),OdR σ rs R o a→ ∃g' xs ys,concF σ f=some g'∧concL σ first=some xs∧concL σ captured=some ys∧a.eval g= .func g' xs.toArray ys.toArray:=fun σ a hr=>by
  have:=hr g hg d hd
  rw[h1] at this
  exact conc_fn this
 rcases fnId_true hk1 with ⟨f,rfl,hk2⟩|⟨l,rfl,hk2⟩
 ·obtain ⟨h2,hk3⟩:=chk_iff.1 hk2
  obtain ⟨v,H',hk4,hs⟩:=hF.func f _ H k hk3
  refine ⟨v,H',hk4,fun_op ho hs fun σ a w hr=>?_⟩
  obtain ⟨g',xs,ys,q1,q2,q3,q4⟩:=hv σ a hr
  simp only[concF,Option.some.injEq] at q1;subst q1
  refine ⟨xs++(c.args.toList.map a.eval++ys),?_,?_⟩
  ·rw[lapp_eq,lapp_eq]
   exact concL_append q2 (concL_append (prepOds_conc hr ha (args_ops ho)) q3)
  ·rw[run_value ho hc q4]
   have:(xs.toArray++c.args.map a.eval++ys.toArray)=(xs++(c.args.toList.map a.eval++ys)).toArray:=by
    rw[←map_args];simp
   simp only[invoke]
   rw[isGo_some h2,this]
 ·obtain ⟨v,H',hk4,hs⟩:=hF.yield l _ H k hk2
  refine ⟨v,H',hk4,hs.1,fun r pr w0 σ a w hr hsim=>?_⟩
  obtain ⟨g',xs,ys,q1,q2,q3,q4⟩:=hv σ a hr
  simp only[concF] at q1
  cases hl:σ l with
  |none=>simp[hl] at q1
  |some e=>
   simp[hl] at q1;subst q1
   obtain ⟨f,tmps,assign,body,h3,h4⟩:=hs.2 pr w0 σ w (xs++c.args.toList.map a.eval) e (by rw[lapp_eq];exact concL_append q2 (prepOds_conc hr ha (args_ops ho))) hl hsim
   refine opRun_round (by intro c hc;rw[ho] at hc;cases hc) (w':=w) ?_ h4 fun e u he=>callPost_ret he
   rw[run_value ho hc q4]
   have:(xs.toArray++c.args.map a.eval)=(xs++c.args.toList.map a.eval).toArray:=by
    rw[←map_args];simp
   simp only[invoke]
   rw[this,h3]
theorem run_method{name:String}{t f:Nat}(h:methOf P name t=some f)(n:Nat)(v:Value)(w:World):(method (n+1) t v name).run P w= .ok (f,v) w:=by
 obtain ⟨i,m,h1,h2,h3,_,d,hu,h5⟩:=methOf_some h
 have hp:m.path.toList=[]:=by simpa[Array.isEmpty] using h3
 rcases h5 with ⟨e,rfl,hf⟩|⟨hne,hf⟩
 ·simp[method,typeInfo,h1,h2,hp,follow,hf,receiverAt,run_und hu,Place.get]
 ·cases d <;> first|exact absurd rfl (hne _)|simp[method,typeInfo,h1,h2,hp,follow,hf,receiverAt,run_und hu,Place.get]
theorem sCallI{F:Fs}(hF:FSound P F){c:Go.Call}{g:Operand}{name:String}(ho:o.op= .call c)(hc:c.callee= .invoke g name){args:List Od}(ha:prepOds rs c.args.toList=some args){d:Od}(hd:rs g=some d):OShows P rs o (xCallI (methOf P name) d args) F:=fun R H k hk=>by
 have hg:g∈o.op.operands:=by rw[ho];simp[Op.operands,Call.operands,hc]
 obtain ⟨t,u,h1,hk1⟩:=asIfc_true hk
 unfold callIc callId at hk1
 split at hk1
 ·rename_i f hm
  obtain ⟨v,H',hk4,hs⟩:=hF.func f _ H k hk1
  refine ⟨v,H',hk4,fun_op ho hs fun σ a w hr=>?_⟩
  have e1:=hr g hg d hd
  rw[h1] at e1
  simp only[conc] at e1
  cases hu:conc σ u with
  |none=>simp[hu] at e1
  |some z=>
   simp[hu] at e1
   refine ⟨z::c.args.toList.map a.eval,concL_cons.2 ⟨z,_,rfl,hu,prepOds_conc hr ha (args_ops ho)⟩,?_⟩
   have hmeth: ∀n,(method (n+Made.depth) t z name).run P w= .ok (f,z) w:=fun n=>run_method hm (n+(Made.depth-1)) z w
   have hgo:isGo P f=true:=by obtain ⟨i,m,_,_,_,hgo,_⟩:=methOf_some hm;exact hgo
   have hres:(execOp a.eval o).run P w=(invoke (.fn (.method name) #[]) (#[.iface t z]++c.args.map a.eval)).run P w:=by
    simp only[execOp,ho,resolve,hc,Sem.run_bind,Sem.run_pure,Result.andThen_ok, ←e1]
   rw[hres]
   generalize hys:c.args.map a.eval=ys
   have h0:(#[Value.iface t z]++ys)[0]? =some (.iface t z):=by
    rw[Array.getElem?_append];simp
   have h2:(#[Value.iface t z]++ys).extract 1 (#[Value.iface t z]++ys).size=ys:=by
    simp[Array.extract_append]
   simp only[invoke,h0,h2]
   simp only[callMethod,Sem.run_bind,program,Sem.run,Result.andThen_ok,hmeth,isGo_some hgo]
   have: #[z]++ys=(z::c.args.toList.map a.eval).toArray:=by rw[←hys, ←map_args];simp
   rw[this]
 ·cases hk1
theorem sLenM{c:Go.Call}(ho:o.op= .call c)(hc:c.callee= .builtin .len){a:Od}(ha:prepOds rs c.args.toList=some [a]){t kt et:TypeId}(ht:c.argTypes.toList=[t])(hm:tund P t=some (.map kt et)):
 RShows P rs o (xLenM a):=fun F R H k hk=>by
 have ht':c.argTypes[0]? =some t:=by rw[←Array.getElem?_toList,ht];rfl
 have hnd: ∀c,o.op≠ .defer c:=by intro c hc;rw[ho] at hc;cases hc
 obtain ⟨x,hx,hxa⟩: ∃x,c.args.toList=[x]∧rs x=some a:=by
  cases hl:c.args.toList with
  |nil=>rw[hl] at ha;cases ha
  |cons x l=>
   rw[hl] at ha
   simp only[prepOds] at ha
   cases h1:rs x with
   |none=>simp[h1] at ha
   |some d=>cases h2:prepOds rs l with
    |none=>simp[h1,h2] at ha
    |some r=>
     simp[h1,h2] at ha
     obtain ⟨rfl,rfl⟩:=ha
     cases l with
     |nil=>exact ⟨x,rfl,h1⟩
     |cons y l=>
      simp only[prepOds] at h2
      split at h2 <;> cases h2
 have hra:readAt rs o=some a:=by simp[readAt,ho,hx,hxa]
 have hres: ∀(σ:Sg) (act:Act),OdR σ rs R o act→ ∃y,conc σ (evd R a)=some y∧c.args.map act.eval= #[y]:=fun σ act hr=>by
  obtain ⟨y,h1,h2⟩:=argsR1 (prepOds_conc hr ha (args_ops ho))
  refine ⟨y,h2,?_⟩
  rw[←map_args,h1]
 rcases asMap_true hk with ⟨h1,hk2⟩|⟨b,h1,hk2⟩
 ·refine ⟨a,_,hra,hk2,⟨hnd,fun σ act w hr hs=>⟨_,rfl,?_⟩⟩,fun b' hb'=>by rw[h1] at hb';cases hb'⟩
  obtain ⟨y,y1,y2⟩:=hres σ act hr
  rw[h1] at y1;obtain rfl:=conc_nilm y1
  rw[run_builtin ho hc,y2]
  simp[builtin,Builtin.len_,ht',run_und hm];rfl
 ·obtain ⟨es,h2,hk3⟩:=hmapU_true hk2
  have hbk:blkOf (evd R a)=some b:=by rw[h1];rfl
  refine ⟨a,_,hra,hk3,⟨hnd,fun σ act w hr hs=>⟨_,rfl,?_⟩⟩,fun b' hb'=>by rw[hbk] at hb';cases hb';rcases h2 with h2|h2 <;> rw[h2] <;> simp⟩
  obtain ⟨y,y1,y2⟩:=hres σ act hr
  rw[h1] at y1;obtain ⟨e,e1,rfl⟩:=conc_mp y1
  obtain ⟨l,cl,m1,m2⟩:=(hs b hbk).map e1 h2
  have:=m2.length
  rw[run_builtin ho hc,y2]
  simp[builtin,Builtin.len_,ht',run_und hm,MapKept.run_getObj_map m1]
  rw[llen_eq,this];rfl
end ops
end Go.Ev
namespace Go.Ev
section ops
variable {P:Program} {X:Nat→Option Call} {rs:Rs} {o:Oper} {F:Fs}
structure Shows (P:Program) (rs:Rs) (o:Oper) (V:VB) (F:Fs):Prop where
 pure:clsOp P o=0→PShows P rs o V
 read:clsOp P o=1→RShows P rs o V
 make:clsOp P o=2→MShows P rs o V
 op:OShows P rs o V F
theorem Shows.fail:Shows P rs o vfail F:=⟨fun _=> .fail,fun _=> .fail,fun _=> .fail, .fail⟩
theorem PShows.reads{V:VB}(h:PShows P rs o V)(hr: ∃x,readAt rs o=some x∧ ∀F R H k,V.run F R H k=true→blkOf (evd R x)=none):RShows P rs o V:=fun F R H k hk=>by
 obtain ⟨v,h1,h2⟩:=h F R H k hk
 obtain ⟨x,x1,x2⟩:=hr
 exact ⟨x,v,x1,h1,h2.reads H _,fun b hb=>by rw[x2 F R H k hk] at hb;cases hb⟩
theorem Shows.ofP{V:VB}(h:PShows P rs o V)(hc:clsOp P o=0∨clsOp P o=3):Shows P rs o V F:=
 ⟨fun _=>h,fun e=>absurd e (by omega),fun e=>absurd e (by omega),h.acts⟩
theorem Shows.ofR{V:VB}(h:RShows P rs o V)(hc:clsOp P o=1):Shows P rs o V F:=
 ⟨fun e=>absurd e (by omega),fun _=>h,fun e=>absurd e (by omega),h.acts⟩
theorem Shows.ofM{V:VB}(h:MShows P rs o V)(hc:clsOp P o=2∨clsOp P o=3):Shows P rs o V F:=
 ⟨fun e=>absurd e (by omega),fun e=>absurd e (by omega),fun _=>h,h.acts⟩
theorem Shows.ofO{V:VB}(h:OShows P rs o V F)(hc:clsOp P o=3):Shows P rs o V F:=
 ⟨fun e=>absurd e (by omega),fun e=>absurd e (by omega),fun e=>absurd e (by omega),h⟩
theorem shConv{s t:TypeId}{x:Operand}(ho:o.op= .convert s t x):Shows P rs o (convVB P rs s t x) F:=by
 unfold convVB od1
 cases hd:rs x with
 |none=>exact Shows.fail
 |some d=>
  simp only
  split
  ·rename_i j k h1 h2;exact .ofP (sCInt ho h1 h2 hd) (.inl (by simp[clsOp,ho,h1,h2]))
  ·rename_i j h1 h2;exact .ofP (sCIS ho h1 h2 hd) (.inl (by simp[clsOp,ho,h1,h2]))
  ·rename_i h1 h2;exact .ofP (sCSS ho h1 h2 hd) (.inl (by simp[clsOp,ho,h1,h2]))
  ·rename_i e h1 h2
   split
   ·rename_i he _;exact .ofM (sCSB ho h1 h2 he hd) (.inl (by simp[clsOp,ho,h1,h2]))
   ·rename_i he _;exact .ofM (sCSR ho h1 h2 he hd) (.inl (by simp[clsOp,ho,h1,h2]))
   ·exact Shows.fail
  ·rename_i e h1 h2
   split
   ·rename_i he;exact .ofR (sCBS ho h1 he h2 hd) (by simp[clsOp,ho,h1,h2])
   ·rename_i he;exact .ofR (sCRS ho h1 he h2 hd) (by simp[clsOp,ho,h1,h2])
   ·exact Shows.fail
  ·rename_i e h1 h2
   split
   ·exact Shows.fail
   ·rename_i n hn h0;exact .ofR (sCPU ho h1 h2 h0 hn hd) (by simp[clsOp,ho,h1,h2])
   ·exact Shows.fail
  ·rename_i u h1 h2
   split
   ·exact Shows.fail
   ·rename_i n hn h0;exact .ofR (sCUP ho h1 h2 h0 hn hd) (by simp[clsOp,ho,h1,h2])
   ·exact Shows.fail
  ·exact Shows.fail
theorem shCall{c:Go.Call}(hX:XSound P X)(hF:FSound P F)(ho:o.op= .call c):Shows P rs o (pCall P X rs c) F:=by
 unfold pCall
 cases ha:prepOds rs c.args.toList with
 |none=>exact Shows.fail
 |some args=>
  simp only
  unfold pCall2
  cases hc:c.callee with
  |value g=>
   have h3:clsOp P o=3:=by simp[clsOp,ho,hc]
   refine .ofO ?_ h3
   simp only
   unfold pCallO
   split
   ·exact sCallF hX hF ho hc ha
   ·unfold od1
    cases hd:rs g with
    |none=>exact .fail
    |some d=>exact sCallV hF ho hc ha hd
  |invoke g name=>
   have h3:clsOp P o=3:=by simp[clsOp,ho,hc]
   refine .ofO ?_ h3
   simp only
   unfold od1
   cases hd:rs g with
   |none=>exact .fail
   |some d=>exact sCallI hF ho hc ha hd
  |builtin b=>
   simp only
   unfold pBuiltin
   split
   ·rename_i a t hts
    by_cases hm: ∃k e,tund P t=some (.map k e)
    ·obtain ⟨kt,et,hm⟩:=hm
     have h1:clsOp P o=1:=by simp[clsOp,ho,hc,hts,hm]
     have:pLen P a t=xLenM a:=by simp[pLen,hm]
     rw[this]
     exact .ofR (sLenM ho hc ha hts hm) h1
    ·have h0:clsOp P o=0:=by
      simp only[clsOp,ho,hc,hts]
      split
      ·rename_i k e hu;exact absurd ⟨_,_,hu⟩ hm
      ·rfl
     exact .ofP (sLen ho hc ha hts (fun k e h=>hm ⟨k,e,h⟩)) (.inl h0)
   ·rename_i a t hts
    exact .ofP (sCap ho hc ha hts) (.inl (by simp[clsOp,ho,hc]))
   ·exact .ofO (sUSD ho hc ha) (by simp[clsOp,ho,hc])
   ·rename_i a n t ts hts
    exact .ofO (sUStr ho hc ha hts) (by simp[clsOp,ho,hc])
   ·exact .ofP (sMin ho hc ha) (.inl (by simp[clsOp,ho,hc]))
   ·exact .ofP (sMax ho hc ha) (.inl (by simp[clsOp,ho,hc]))
   ·rename_i d s t u hts
    exact .ofO (sCopy ho hc ha hts) (by simp[clsOp,ho,hc])
   ·rename_i s x t u hts
    exact .ofO (sAppend ho hc ha hts) (by simp[clsOp,ho,hc])
   ·rename_i a t hts
    exact .ofO (sClr ho hc ha hts) (by simp[clsOp,ho,hc])
   ·exact Shows.fail
theorem prepOp_shows(hX:XSound P X)(hF:FSound P F):Shows P rs o (prepOp P X rs o) F:=by
 have c0: ∀ {V:VB},PShows P rs o V→(clsOp P o=0)→Shows P rs o V F:=fun h e=> .ofP h (.inl e)
 cases ho:o.op with
 |move x=>simp only[prepOp,ho];exact c0 (sMove (.inl ho)) (by simp[clsOp,ho])
 |assign x=>simp only[prepOp,ho];exact c0 (sMove (.inr ho)) (by simp[clsOp,ho])
 |pick c x y=>simp only[prepOp,ho];exact c0 (sPick ho) (by simp[clsOp,ho])
 |alloc e=>simp only[prepOp,ho];exact .ofM (sAlloc ho) (.inl (by simp[clsOp,ho]))
 |box e x=>simp only[prepOp,ho];exact .ofM (sBox ho) (.inl (by simp[clsOp,ho]))
 |build t ps=>simp only[prepOp,ho];exact c0 (sBuild ho) (by simp[clsOp,ho])
 |buildSlice t n ps=>simp only[prepOp,ho];exact .ofM (sBSlice ho) (.inl (by simp[clsOp,ho]))
 |insert t m i v=>simp only[prepOp,ho];exact .ofO (sMapU (.inr ho)) (by simp[clsOp,ho])
 |mapUpdate t m i v=>simp only[prepOp,ho];exact .ofO (sMapU (.inl ho)) (by simp[clsOp,ho])
 |mapEntry t m i=>simp only[prepOp,ho];exact .ofO (sMapE ho) (by simp[clsOp,ho])
 |entryStore t m s v=>simp only[prepOp,ho];exact .ofO (sEntS ho) (by simp[clsOp,ho])
 |load t x=>simp only[prepOp,ho];exact .ofR (sLoad ho) (by simp[clsOp,ho])
 |store t x y=>simp only[prepOp,ho];exact .ofO (sStore ho) (by simp[clsOp,ho])
 |nilCheck x=>simp only[prepOp,ho];exact c0 (sNil ho) (by simp[clsOp,ho])
 |binOp op t x y u=>simp only[prepOp,ho];exact c0 (sBin ho) (by simp[clsOp,ho])
 |unOp op t x=>simp only[prepOp,ho];exact c0 (sUn ho) (by simp[clsOp,ho])
 |convert s t x=>simp only[prepOp,ho];exact shConv ho
 |makeInterface t x=>simp only[prepOp,ho];exact c0 (sMkI ho) (by simp[clsOp,ho])
 |makeFunc f a c=>simp only[prepOp,ho];exact c0 (sMkF ho) (by simp[clsOp,ho])
 |makeMap t r=>simp only[prepOp,ho];exact .ofM (sMkM ho) (.inl (by simp[clsOp,ho]))
 |makeSlice t l c=>simp only[prepOp,ho];exact .ofM (sMkS ho) (.inl (by simp[clsOp,ho]))
 |slice t x lo hi mx=>simp only[prepOp,ho];exact c0 (sSlice ho) (by simp[clsOp,ho])
 |fieldAddr s x f=>simp only[prepOp,ho];exact c0 (sFldA ho) (by simp[clsOp,ho])
 |field t x f=>simp only[prepOp,ho];exact c0 (sFld ho) (by simp[clsOp,ho])
 |indexAddr t x i=>simp only[prepOp,ho];exact c0 (sIxA ho) (by simp[clsOp,ho])
 |index t x i=>simp only[prepOp,ho];exact c0 (sIx ho) (by simp[clsOp,ho])
 |lookup t x i ok=>simp only[prepOp,ho];exact .ofR (sLook ho) (by simp[clsOp,ho])
 |range t x=>
  simp only[prepOp,ho]
  refine .ofO ?_ (by simp[clsOp,ho])
  unfold pRange
  split
  ·rename_i hu
   unfold od1
   cases hd:rs x with
   |none=>exact .fail
   |some d=>exact (sRngS ho hu hd).acts
  ·rename_i k e hu
   unfold od1
   cases hd:rs x with
   |none=>exact .fail
   |some d=>exact sRngM ho hu hd
  ·exact .fail
 |next it isString=>
  simp only[prepOp,ho]
  refine .ofO ?_ (by simp[clsOp,ho])
  unfold pNext od1
  cases hd:rs it with
  |none=>exact .fail
  |some d=>cases isString with
   |true=>exact sNxS ho hd
   |false=>exact sNxM ho hd
 |entry it=>
  simp only[prepOp,ho]
  refine .ofO ?_ (by simp[clsOp,ho])
  unfold pEntry od1
  cases hd:rs it with
  |none=>exact .fail
  |some d=>exact sEnt ho hd
 |extract x i=>simp only[prepOp,ho];exact c0 (sExt ho) (by simp[clsOp,ho])
 |call c=>simp only[prepOp,ho];exact shCall hX hF ho
 |_=>simp only[prepOp,ho];exact Shows.fail
theorem sSliceT{t:TypeId}{x:Operand}{lo hi mx:Option Operand}(ho:o.op= .slice t x lo hi mx)(hV:OShows P rs o (sliceVB P rs t x lo hi mx) F):OShows P rs o (sliceT P rs t x lo hi mx) F:=by
 unfold sliceT
 split
 ·rename_i e d l hdd hu hd hl hh
  split
  ·rename_i n hn
   intro R H k hk
   have hk1:bc (asSlc (evd R d) false (fun _ _ _ _=>false) (slTw R hdd)) (asSlc (evd R d) false (fun _ _ _ _=>false) (slTa n R l hdd H k)) ((sliceVB P rs t x lo hi none).run F R H k)=true:=hk
   clear hk
   rw[bc_eq] at hk1
   split at hk1
   ·rcases asSlc_true hk1 with ⟨_,h2⟩|⟨_,_,_,_,_,h2⟩|⟨b,off,len,z,h1,h2⟩
    ·cases h2
    ·cases h2
    clear hk1
    obtain ⟨j,hh1,e3,h4⟩:=ix_true h2
    obtain ⟨hz,h5⟩:=chk_iff.1 h4
    obtain rfl:=beq_iff.1 hz
    obtain ⟨el,sp,c,hb,h6⟩:=hcells_true h5
    obtain ⟨h7,h8⟩:=chk_iff.1 h6
    obtain ⟨vl,h9,h10⟩:=odN_val h8
    obtain ⟨h11,h12⟩:=chk_iff.1 h10
    have b1:off+hh1*n≤c.n:=ble_iff.1 h7
    have b2:vl.getD 0<hh1:=blt_iff.1 h11
    refine ⟨_,H,h12,Stays.refl H,fun r pr w0 σ a w hr hs=>?_⟩
    have hx:x∈o.op.operands:=by rw[ho];simp[Op.operands]
    have hop: ∀(q:Option Operand),q=lo∨q=hi→ ∀y,q=some y→y∈o.op.operands:=by
     intro q hq y hy;subst hy;rw[ho];rcases hq with h|h <;> rw[←h] <;> simp[Op.operands]
    have hc1:=hr x hx d hd
    rw[h1] at hc1
    obtain ⟨en,k1,k3,k4,k2⟩:=conc_su hc1
    have hdm:=hs.dom b en k1
    rw[hb] at hdm
    obtain ⟨arr,fz,kc⟩:=hdm
    have ht:off+hh1*n≤en.tot:=Nat.le_trans b1 kc.le
    have hcap:hh1≤(en.tot-off) / n:=by rw[Nat.le_div_iff_mul_le k3];omega
    have e4:=bd_of hr (hop hi (by simp)) hh (v:=some hh1) (.inr ⟨_,j,hh1,rfl,e3,rfl⟩)
    have e5:=bd_of hr (hop lo (by simp)) hl h9
    have run:=run_bounds (P:=P) (a:=a) (mx:=none) (m:=none) true len ((en.tot-off) / n) e5 e4 (.inl ⟨rfl,rfl⟩) (by simp) (by simp) (by simpa using hcap) (by simp;omega) w
    refine opRun_value (by intro c hc;rw[ho] at hc;cases hc) (x:= .slice (if (en.tot-off) / n=vl.getD 0 then (some ⟨en.blk,en.base+off,none⟩:Option Addr) else (some ⟨en.blk,en.base+off,none⟩:Option Addr).map (·.add (vl.getD 0*n))) (hh1-vl.getD 0) ((en.tot-off) / n-vl.getD 0)) (w':=w) ?_ ⟨σ,Grows.refl σ H,?_,hs⟩
    ·simp only[execOp,ho,k2,Instr.sliceAt,Instr.slice,Sem.run_bind,run_und hu,Result.andThen_ok,run,run_sizeOf' hn,Sem.run_pure,Option.getD_none,Option.getD_some]
    ·generalize vl.getD 0=lv at*
     have hle:(off+lv*n)+(hh1-lv)*n≤en.tot:=by
      have h10:lv*n+(hh1-lv)*n=hh1*n:=by rw[←Nat.add_mul];congr 1;omega
      omega
     have hne: ¬(en.tot-off) / n=lv:=by omega
     have hdiv:(en.tot-(off+lv*n)) / n=(en.tot-off) / n-lv:=by
      rw[Nat.sub_add_eq,Nat.mul_comm lv n,Nat.sub_mul_div]
     simp only[conc,k1,Option.bind_some]
     rw[if_pos (⟨k3,hle⟩:0<n∧Nat.add off (Nat.mul lv n)+Nat.sub hh1 lv*n≤en.tot),if_neg hne]
     simp only[Option.map_some,addr_add]
     show some (Value.slice _ _ ((en.tot-(off+lv*n)) / n))=_
     rw[hdiv];rfl
   ·exact hV R H k hk1
  ·exact OShows.fail
 ·exact hV
theorem prepOpT_shows(hX:XSound P X)(hF:FSound P F):OShows P rs o (prepOpT P X rs o) F:=by
 unfold prepOpT
 split
 ·rename_i t x lo hi mx ho
  have h:=(prepOp_shows (rs:=rs) (o:=o) hX hF).op
  simp only[prepOp,ho] at h
  exact sSliceT ho h
 ·exact (prepOp_shows hX hF).op
end ops
end Go.Ev
namespace Go.Ev
section
variable {P:Program} {X:Nat→Option Call} {F:Fs}
def WhOk(n:Nat):Wh→Prop
 | .own i=>i<n
 | .as (.s _)=>True
 | .as (.c _)=>True
 | .as (.l _)=>False
def RgOk(g:Rg):Prop:= ∀t w,whFind t g.ws=some w→WhOk g.n w
theorem evd_push{n:Nat}{w:Wh}(h:WhOk n w)(R:Fr)(v:AV):evd (pushE R v) (whOd (n+1) w)=evd R (whOd n w):=by
 cases w with
 |own i=>
  have hi:i<n:=h
  show lnth (v::R.E) (n+1-1-i)=lnth R.E (n-1-i)
  rw[show n+1-1-i=(n-1-i)+1 by omega]
  rfl
 |as d=>cases d with
  |s p=>rfl
  |c v=>rfl
  |l k=>exact h.elim
theorem evd_own(R:Fr)(v:AV)(n:Nat):evd (pushE R v) (whOd (n+1) (.own n))=v:=by
 show lnth (v::R.E) (n+1-1-n)=v
 rw[show n+1-1-n=0 by omega];rfl
theorem whFind_cons(t u:Nat)(w:Wh)(r:List (Nat × Wh)):whFind t ((u,w)::r)=if u=t then some w else whFind t r:=by
 simp only[whFind]
 rw[bc_eq]
 by_cases h:u=t
 ·rw[if_pos (beq_iff.2 h),if_pos h]
 ·rw[if_neg (fun e=>h (beq_iff.1 e)),if_neg h]
theorem whFind_put(g:Rg)(d:Option Tmp)(w:Wh)(t:Nat):whFind t (rgPut g d w)=if d=some t then some w else whFind t g.ws:=by
 unfold rgPut
 cases d with
 |none=>simp
 |some u=>rw[whFind_cons];simp
theorem WhOk.succ{n:Nat}{w:Wh}(h:WhOk n w):WhOk (n+1) w:=by
 cases w with
 |own i=>exact Nat.lt_succ_of_lt h
 |as d=>cases d <;> exact h
theorem RgOk.op{g:Rg}(h:RgOk g)(o:Oper):RgOk (rgOp g o):=fun t w hw=>by
 simp only[rgOp] at hw ⊢
 rw[whFind_put] at hw
 split at hw
 ·obtain rfl:=Option.some.inj hw;exact Nat.lt_succ_self g.n
 ·exact (h t w hw).succ
theorem RgOk.move{g:Rg}(h:RgOk g)(o:Oper){w:Wh}(hw:WhOk g.n w):RgOk (rgMove g o w):=fun t w' hw'=>by
 simp only[rgMove] at hw' ⊢
 rw[whFind_put] at hw'
 split at hw'
 ·obtain rfl:=Option.some.inj hw';exact hw
 ·exact h t w' hw'
theorem ofC_conc{v:Value}{u:AV}(h:ofC v=some u)(σ:Sg):conc σ u=some v:=zAV2_conc (z:=u) h σ
theorem constOd_some{x:Operand}{d:Od}(h:constOd x=some d): ∃v,d= .c v∧ ∀(σ:Sg) (a:Act),conc σ v=some (a.eval x):=by
 cases x with
 |tmp t=>cases h
 |global g=>cases h
 |const v=>
  simp only[constOd] at h
  cases hv:ofC v with
  |none=>rw[hv] at h;cases h
  |some u=>rw[hv] at h;exact ⟨u,(Option.some.inj h).symm,fun σ a=>ofC_conc hv σ⟩
 |func f=>
  simp only[constOd,Option.some.injEq] at h
  exact ⟨_,h.symm,fun σ a=>rfl⟩
theorem rgWh_ok{live:Nat}{g:Rg}(h:RgOk g){x:Operand}{w:Wh}(hw:rgWh live g x=some w):WhOk g.n w:=by
 unfold rgWh at hw
 split at hw
 ·rename_i t
  split at hw
  ·rename_i w' h1
   obtain rfl:=Option.some.inj hw;exact h t _ h1
  ·rw[bc_eq] at hw
   split at hw
   ·obtain rfl:=Option.some.inj hw;trivial
   ·cases hw
 ·cases hc:constOd x with
  |none=>rw[hc] at hw;cases hw
  |some d=>
   rw[hc] at hw
   obtain ⟨v,rfl,_⟩:=constOd_some hc
   obtain rfl:=Option.some.inj hw;trivial
def RgR(σ:Sg)(live:Nat)(g:Rg)(R:Fr)(tmps:Array Value):Prop:=
 ∀t,match whFind t g.ws with
  |some w=>conc σ (evd R (whOd g.n w))=some (tmps.getD t undef)
  |none=>live.testBit t=true→conc σ (getT undf (toP t) R.T)=some (tmps.getD t undef)
theorem RgR.mono{σ τ:Sg}(h:σ.le τ){live:Nat}{g:Rg}{R:Fr}{tmps:Array Value}(k:RgR σ live g R tmps):RgR τ live g R tmps:=fun t=>by
 have:=k t
 split at this
 ·exact conc_mono h _ _ this
 ·exact fun hl=>conc_mono h _ _ (this hl)
theorem rgSlot_conc{σ:Sg}{live:Nat}{g:Rg}{R:Fr}{tmps:Array Value}(k:RgR σ live g R tmps){t:Nat}{d:Od}(h:rgSlot live g t=some d):conc σ (evd R d)=some (tmps.getD t undef):=by
 have:=k t
 unfold rgSlot at h
 split at h
 ·rename_i w hw
  rw[hw] at this
  obtain rfl:=Option.some.inj h;exact this
 ·rename_i hw
  rw[hw] at this
  rw[bc_eq] at h
  split at h
  ·rename_i hl
   obtain rfl:=Option.some.inj h;exact this hl
  ·cases h
theorem rgRs_conc{σ:Sg}{live:Nat}{g:Rg}{R:Fr}{a:Act}(k:RgR σ live g R a.tmps){x:Operand}{d:Od}(h:rgRs live g x=some d):conc σ (evd R d)=some (a.eval x):=by
 unfold rgRs at h
 split at h
 ·exact rgSlot_conc k h
 ·obtain ⟨v,rfl,hv⟩:=constOd_some h
  exact hv σ a
theorem RgR.odR{σ:Sg}{live:Nat}{g:Rg}{R:Fr}{a:Act}(k:RgR σ live g R a.tmps)(o:Oper):OdR σ (rgRs live g) R o a:=fun _ _ _ hd=>rgRs_conc k hd
theorem rgWh_conc{σ:Sg}{live:Nat}{g:Rg}{R:Fr}{a:Act}(k:RgR σ live g R a.tmps){x:Operand}{w:Wh}(h:rgWh live g x=some w):conc σ (evd R (whOd g.n w))=some (a.eval x):=by
 unfold rgWh at h
 split at h
 ·rename_i t
  have:=k t
  split at h
  ·rename_i w' h1
   rw[h1] at this
   obtain rfl:=Option.some.inj h;exact this
  ·rename_i h1
   rw[h1] at this
   rw[bc_eq] at h
   split at h
   ·rename_i hl
    obtain rfl:=Option.some.inj h;exact this hl
   ·cases h
 ·cases hc:constOd x with
  |none=>rw[hc] at h;cases h
  |some d=>
   rw[hc] at h
   obtain ⟨v,rfl,hv⟩:=constOd_some hc
   obtain rfl:=Option.some.inj h;exact hv σ a
def DstIn(N:Nat)(o:Oper):Prop:= ∀d,o.dst=some d→d<N
theorem getD_put{a:Act}{d:Option Tmp}{x:Value}{t:Nat}(h: ∀u,d=some u→u<a.tmps.size):(a.put d x).tmps.getD t undef=if d=some t then x else a.tmps.getD t undef:=by
 cases d with
 |none=>simp[Act.put]
 |some u=>
  simp only[Act.put,Array.getD_eq_getD_getElem?,Array.getElem?_setIfInBounds,Option.some.injEq]
  by_cases hu:u=t
  ·subst hu;simp[h u rfl]
  ·simp[hu]
theorem size_put{a:Act}{d:Option Tmp}{x:Value}:(a.put d x).tmps.size=a.tmps.size:=by
 cases d <;> simp[Act.put]
theorem defers_put{a:Act}{d:Option Tmp}{x:Value}:(a.put d x).defers=a.defers:=by
 cases d <;> rfl
theorem RgR.op{σ τ:Sg}(hle:σ.le τ){live:Nat}{g:Rg}(hg:RgOk g){R:Fr}{a:Act}(k:RgR σ live g R a.tmps){o:Oper}(ho:DstIn a.tmps.size o){v:AV}{x:Value}(hx:conc τ v=some x):
 RgR τ live (rgOp g o) (pushE R v) (a.put o.dst x).tmps:=fun t=>by
 have:=k t
 simp only[rgOp]
 rw[whFind_put,getD_put ho]
 by_cases h:o.dst=some t
 ·rw[if_pos h,if_pos h]
  simp only
  have:=evd_own R v g.n
  rw[show Nat.add g.n 1=g.n+1 from rfl,this];exact hx
 ·rw[if_neg h,if_neg h]
  split at this
  ·rename_i w hw
   rw[show Nat.add g.n 1=g.n+1 from rfl,evd_push (hg t w hw)]
   exact conc_mono hle _ _ this
  ·exact fun hl=>conc_mono hle _ _ (this hl)
theorem RgR.move{σ:Sg}{live:Nat}{g:Rg}{R:Fr}{a:Act}(k:RgR σ live g R a.tmps){o:Oper}(ho:DstIn a.tmps.size o){w:Wh}{x:Value}(hx:conc σ (evd R (whOd g.n w))=some x):
 RgR σ live (rgMove g o w) R (a.put o.dst x).tmps:=fun t=>by
 have:=k t
 simp only[rgMove]
 rw[whFind_put,getD_put ho]
 by_cases h:o.dst=some t
 ·rw[if_pos h,if_pos h];exact hx
 ·rw[if_neg h,if_neg h];exact this
theorem RgR.start{σ:Sg}{live:Nat}{T:Tr AV}{tmps:Array Value}(h:FrameR σ live T tmps):RgR σ live ⟨[],0⟩ ⟨T,[]⟩ tmps:=fun t hl=>h t hl
theorem testBit_or_shift(m t u:Nat):(Nat.lor m (Nat.shiftLeft 1 t)).testBit u=(m.testBit u||decide (t=u)):=by
 show (m ||| 1 <<< t).testBit u=_
 rw[Nat.testBit_or,Nat.one_shiftLeft,Nat.testBit_two_pow]
theorem flush_get(R:Fr)(live n:Nat): ∀(ws:List (Nat × Wh)) (done t:Nat),live.testBit t=true→done.testBit t=false→
 getT undf (toP t) (flushT R (flushOf live n ws done))=match whFind t ws with|some w=>evd R (whOd n w)|none=>getT undf (toP t) R.T
 |[],done,t,_,_=>rfl
 |(u,w)::r,done,t,hl,hd=>by
  simp only[flushOf]
  rw[whFind_cons,bc_eq,bc_eq]
  by_cases hut:u=t
  ·subst hut
   have h1: ¬Nat.testBit done u=true:=by rw[hd];simp
   rw[if_neg h1,if_pos hl,if_pos rfl]
   exact getT_setT_self _ _ _ _
  ·rw[if_neg hut]
   split
   ·exact flush_get R live n r done t hl hd
   ·split
    ·have h1:getT undf (toP t) (flushT R ((toP u,whOd n w)::flushOf live n r (Nat.lor done (Nat.shiftLeft 1 u))))=getT undf (toP t) (flushT R (flushOf live n r (Nat.lor done (Nat.shiftLeft 1 u)))):=
      getT_setT_ne _ _ _ _ _ (toP_ne (Ne.symm hut))
     rw[h1]
     exact flush_get R live n r _ t hl (by rw[testBit_or_shift,hd];simp[hut])
    ·exact flush_get R live n r done t hl hd
theorem RgR.flush{σ:Sg}{live:Nat}{g:Rg}{R:Fr}{tmps:Array Value}(k:RgR σ live g R tmps):FrameR σ live (flushT R (flushOf live g.n g.ws 0)) tmps:=fun t hl=>by
 rw[flush_get R live g.n g.ws 0 t hl (by simp)]
 have:=k t
 split at this
 ·exact this
 ·exact this hl
theorem conc_isBool{σ:Sg}{v:AV}{b:Bool}(h:conc σ v=some (.bool b)):v= .bool b:=by
 cases v with
 |bool c=>rw[conc_bool h |> Value.bool.inj]
 |int j n=>cases conc_int h
 |str l n=>cases conc_str h
 |nilp=>simp[conc] at h
 |nils=>simp[conc] at h
 |nilm=>simp[conc] at h
 |nilf=>simp[conc] at h
 |nili=>simp[conc] at h
 |ptr b o=>simp only[conc] at h;cases hs:σ b <;> simp[hs] at h
 |sl b o l c=>simp only[conc] at h;cases hs:σ b <;> simp[hs] at h
 |su b o l c=>obtain ⟨_,_,_,_,h⟩:=conc_su h;cases h
 |se b o l c=>obtain ⟨_,_,_,_,h⟩:=conc_se h;cases h
 |opq b l=>obtain ⟨_,_,_,_,h⟩:=conc_opq h;cases h
 |mp b=>simp only[conc] at h;cases hs:σ b <;> simp[hs] at h
 |fn f a c=>obtain ⟨_,_,_,_,_,_,h⟩:=conc_fn h;cases h
 |ifc t v=>simp only[conc] at h;cases hs:conc σ v <;> simp[hs] at h
 |agg l=>simp only[conc] at h;cases hs:concL σ l <;> simp[hs] at h
 |tup l=>simp only[conc] at h;cases hs:concL σ l <;> simp[hs] at h
theorem wanted_none{o:Oper}{ops:Array Oper}(h:guardS ops o=some none)(y:Nat→Option Bool):Region.wanted o y=true:=by
 unfold guardS at h
 unfold Region.wanted
 split at h
 ·rename_i hg;rw[hg]
 ·split at h <;> cases h
theorem wanted_some{o:Oper}{ops:Array Oper}{t:Tmp}{want:Bool}(h:guardS ops o=some (some (t,want))){σ:Sg}{v:AV}{tmps:Array Value}(hv:conc σ v=some (tmps.getD t undef)):
 Region.wanted o (yielded ops tmps)=isW v want:=by
 unfold guardS at h
 split at h
 ·cases h
 ·rename_i j want' hg
  split at h
  ·rename_i u hu
   simp only[Option.some.injEq,Prod.mk.injEq] at h
   obtain ⟨rfl,rfl⟩:=h
   unfold Region.wanted
   rw[hg]
   simp only[yielded,hu,Option.bind_some]
   cases hb:tmps[u]? with
   |none=>
    have hx:conc σ v=some undef:=by rw[hv];simp[hb]
    have:isW v want'=false:=by
     cases v <;> first|rfl|(rename_i b;have:=conc_bool hx;cases this)
    rw[this];simp
   |some x=>
    have hx:conc σ v=some x:=by rw[hv];simp[hb]
    cases v with
    |bool b=>
     obtain rfl:=conc_bool hx
     cases b <;> cases want' <;> rfl
    |_=>
     have hne: ∀b,x≠ .bool b:=fun b e=>by
      rw[e] at hx
      cases conc_isBool hx
     split
     ·rename_i b e;exact absurd (Option.some.inj e) (hne b)
     ·rfl
  ·cases h
def OpsSpec(P:Program)(ops:Array Oper)(l:List Nat)(live:Nat)(I:Sg→Array Value→Prop)(H:Hp)(T':Tr AV)(H':Hp):Prop:=
 Stays H H'∧ ∀(r:Option Nat) (pr:Nat→Prop) (w0:World) (σ:Sg) (a:Act) (w:World),(∀o∈ops,DstIn a.tmps.size o)→I σ a.tmps→Sim pr w0 σ H w→
  ∀(n:Nat) (Q:Exit→Act→World→Prop),(∀(τ:Sg) (a':Act) (w':World),a'.tmps.size=a.tmps.size→a'.defers=a.defers→Grows σ H τ H'→FrameR τ live T' a'.tmps→Sim pr w0 τ H' w'→Q .normal a' w')→
   wpOpsIn (fw r) n P ops Q l a w
theorem prepOps_sound(hX:XSound P X)(hF:FSound P F)(ops:Array Oper)(live:Nat): ∀(l:List Oper) (i:Nat) (g:Rg) (R:Fr) (H:Hp) (k:KN),ops.toList.drop i=l→RgOk g→
 (prepOps P X live ops l g).run F R H k=true→ ∃T' H',k T' H'=true∧OpsSpec P ops (List.range' i l.length) live (fun σ tmps=>RgR σ live g R tmps) H T' H'
 |[],i,g,R,H,k,hl,hg,hk=>by
  refine ⟨_,H,hk,Stays.refl H,fun r pr w0 σ a w hd hr hs n Q hQ=>?_⟩
  exact hQ σ a w rfl rfl (Grows.refl σ H) hr.flush hs
 |o::l,i,g,R,H,k,hl,hg,hk=>by
  have hi:ops[i]? =some o:=by
   have:(ops.toList.drop i)[0]? =some o:=by rw[hl];rfl
   simpa using this
  have hmem:o∈ops:=Array.mem_of_getElem? hi
  have hl':ops.toList.drop (i+1)=l:=by
   have:(ops.toList.drop i).drop 1=l:=by rw[hl];rfl
   rwa [List.drop_drop] at this
  have hrange:List.range' i (o::l).length=i::List.range' (i+1) l.length:=by
   rw[List.length_cons,List.range'_succ]
  have hwp: ∀ {r:Option Nat} {n:Nat} {Q:Exit→Act→World→Prop} {a:Act} {w:World},wpOpIn (fw r) n P ops Q i (wpOpsIn (fw r) n P ops Q (List.range' (i+1) l.length)) a w→wpOpsIn (fw r) n P ops Q (List.range' i (o::l).length) a w:=fun h=>by
   rw[hrange,wpOpsIn_cons];exact h
  have step: ∀(k':KN),(rStep (prepOpT P X (rgRs live g) o) (prepOps P X live ops l (rgOp g o)) F R H k')=true→ ∃T' H',k' T' H'=true∧Stays H H'∧
   ∀(r:Option Nat) (pr:Nat→Prop) (w0:World) (σ:Sg) (a:Act) (w:World),(∀o∈ops,DstIn a.tmps.size o)→RgR σ live g R a.tmps→Sim pr w0 σ H w→Region.wanted o (yielded ops a.tmps)=true→
    ∀(n:Nat) (Q:Exit→Act→World→Prop),(∀(τ:Sg) (a':Act) (w':World),a'.tmps.size=a.tmps.size→a'.defers=a.defers→Grows σ H τ H'→FrameR τ live T' a'.tmps→Sim pr w0 τ H' w'→Q .normal a' w')→
     wpOpIn (fw r) n P ops Q i (wpOpsIn (fw r) n P ops Q (List.range' (i+1) l.length)) a w:=fun k' hk=>by
   obtain ⟨v,H1,hk1,hst,hsp⟩:=prepOpT_shows (rs:=rgRs live g) (o:=o) hX hF R H _ hk
   obtain ⟨T',H',hk2,hst2,hsp2⟩:=prepOps_sound hX hF ops live l (i+1) (rgOp g o) (pushE R v) H1 k' hl' (hg.op o) hk1
   refine ⟨T',H',hk2,hst.trans hst2,fun r pr w0 σ a w hd hr hs hw n Q hQ=>?_⟩
   unfold wpOpIn
   rw[hi]
   simp only[hw,if_true]
   refine Oper.wpIn_mono (fun a' w' ⟨x,e1,τ,e2,e3,e4⟩=>?_) (hsp r pr w0 σ a w (hr.odR o) hs n Q)
   subst e1
   refine hsp2 r pr w0 τ _ w' (fun o ho=>by rw[size_put];exact hd o ho) (hr.op e2.le hg (hd o hmem) e3) e4 n Q fun υ a' w'' h1 h2 h3 h4 h5=>?_
   exact hQ υ a' w'' (h1.trans size_put) (h2.trans defers_put) (e2.trans h3) h4 h5
  unfold prepOps at hk
  split at hk
  ·
   rename_i x hm
   unfold moveOB at hk
   split at hk
   ·rename_i w' hw'
    obtain ⟨T',H',hk2,hst2,hsp2⟩:=prepOps_sound hX hF ops live l (i+1) (rgMove g o w') R H k hl' (hg.move o (rgWh_ok hg hw')) hk
    refine ⟨T',H',hk2,hst2,fun r pr w0 σ a w hd hr hs n Q hQ=>hwp ?_⟩
    have hop:o.guard=none∧(o.op= .move x∨o.op= .assign x):=by
     unfold moveOf at hm
     split at hm
     ·rename_i h1 h2;obtain rfl:=Option.some.inj hm;exact ⟨h1, .inl h2⟩
     ·rename_i h1 h2;obtain rfl:=Option.some.inj hm;exact ⟨h1, .inr h2⟩
     ·cases hm
    have hwant:Region.wanted o (yielded ops a.tmps)=true:=by unfold Region.wanted;rw[hop.1]
    unfold wpOpIn
    rw[hi]
    simp only[hwant,if_true]
    have hc:=rgWh_conc (a:=a) hr hw'
    have hrun:OpRun P r o a w (fun y u=>y=a.eval x∧u=w):=opRun_value (by intro c hc;rcases hop.2 with h|h <;> rw[h] at hc <;> cases hc) (x:=a.eval x) (w':=w) (by rcases hop.2 with h|h <;> simp only[execOp,h] <;> rfl) ⟨rfl,rfl⟩
    refine Oper.wpIn_mono (fun a' u ⟨y,e1,e2,e3⟩=>?_) (hrun n Q)
    subst e1 e2 e3
    refine hsp2 r pr w0 σ _ u (fun o ho=>by rw[size_put];exact hd o ho) (hr.move (hd o hmem) hc) hs n Q fun υ a' w'' h1 h2 h3 h4 h5=>?_
    exact hQ υ a' w'' (h1.trans size_put) (h2.trans defers_put) h3 h4 h5
   ·exact absurd hk Bool.false_ne_true
  ·unfold stepOB at hk
   split at hk
   ·exact absurd hk Bool.false_ne_true
   ·rename_i hgd
    have hgs:guardS ops o=some none:=by
     unfold guardOd at hgd
     split at hgd
     ·cases hgd
     ·assumption
     ·split at hgd <;> cases hgd
    obtain ⟨T',H',hk2,hst2,hsp2⟩:=step k hk
    exact ⟨T',H',hk2,hst2,fun r pr w0 σ a w hd hr hs n Q hQ=>hwp (hsp2 r pr w0 σ a w hd hr hs (wanted_none hgs _) n Q hQ)⟩
   ·rename_i d want hgd
    obtain ⟨t,hgs,hsl⟩: ∃t,guardS ops o=some (some (t,want))∧rgSlot live g t=some d:=by
     unfold guardOd at hgd
     split at hgd
     ·cases hgd
     ·cases hgd
     ·rename_i t want' h1
      split at hgd
      ·rename_i d' h2
       simp only[Option.some.injEq,Prod.mk.injEq] at hgd
       obtain ⟨rfl,rfl⟩:=hgd
       exact ⟨t,h1,h2⟩
      ·cases hgd
    have hk':bc (isW (evd R d) want) (rStep (prepOpT P X (rgRs live g) o) (prepOps P X live ops l (rgOp g o)) F R H k) ((prepOps P X live ops l (rgOp g o)).run F (pushE R undf) H k)=true:=hk
    rw[bc_eq] at hk'
    split at hk'
    ·rename_i hw
     obtain ⟨T',H',hk2,hst2,hsp2⟩:=step k hk'
     exact ⟨T',H',hk2,hst2,fun r pr w0 σ a w hd hr hs n Q hQ=>hwp (hsp2 r pr w0 σ a w hd hr hs (by rw[wanted_some hgs (rgSlot_conc hr hsl)];exact hw) n Q hQ)⟩
    ·rename_i hw
     obtain ⟨T',H',hk2,hst2,hsp2⟩:=prepOps_sound hX hF ops live l (i+1) (rgOp g o) (pushE R undf) H k hl' (hg.op o) hk'
     refine ⟨T',H',hk2,hst2,fun r pr w0 σ a w hd hr hs n Q hQ=>hwp ?_⟩
     have hwant:Region.wanted o (yielded ops a.tmps)=false:=by rw[wanted_some hgs (rgSlot_conc hr hsl)];simpa using hw
     unfold wpOpIn
     rw[hi]
     simp only[hwant]
     refine ⟨fun _ _=>trivial,?_⟩
     refine hsp2 r pr w0 σ _ w (fun o ho=>by rw[size_put];exact hd o ho) (hr.op (Sg.le_refl σ) hg (hd o hmem) rfl) hs n Q fun υ a' w'' h1 h2 h3 h4 h5=>?_
     exact hQ υ a' w'' (h1.trans size_put) (h2.trans defers_put) h3 h4 h5
end
end Go.Ev
end
