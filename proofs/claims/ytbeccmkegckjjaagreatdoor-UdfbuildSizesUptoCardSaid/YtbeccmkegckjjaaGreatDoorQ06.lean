/- Law 43, UdfbuildSizes: a part of the proof. -/
import Derived.WalkKit
import Derived.Laws.Rows
import Derived.Laws.CopyRow
import Derived.Laws.CopyOwn
import Derived.Deep.WholeRow
import Derived.Test.YtbeccmkegckjjaaGreatDoorProg
set_option linter.unusedVariables false
set_option linter.ambiguousOpen false
set_option linter.unusedSimpArgs false
section
namespace Go.Proofs.YtbeccmkegckjjaaGreatDoor
open Go.RowKit
structure NF where
 name:ByteArray
 kind:Int
 data:ByteArray
 target:ByteArray
 mode:Int
 uid:Int
 gid:Int
 time:Int
 weight:Int
 hidden:Int
 streams:List (ByteArray × ByteArray)
def NT:Nat→Type
 |0=>Empty
 |n+1=>NF × List (NT n)
def ntF:(n:Nat)→NT n→NF
 |0,t=>nomatch t
 |_+1,t=>t.1
def ntCount:(n:Nat)→NT n→Nat
 |0,_=>0
 |n+1,t=>1+(t.2.map (ntCount n)).sum
def ntLevels:(n:Nat)→NT n→Nat
 |0,_=>0
 |n+1,t=>(t.2.map (ntLevels n)).foldl max 0+1
def nfBytes(f:NF):Nat:=20+f.name.size+f.data.size+f.target.size+(f.streams.map fun s=>20+s.1.size+s.2.size).sum
def ntBytes:(n:Nat)→NT n→Nat
 |0,_=>0
 |n+1,t=>nfBytes t.1+(t.2.map (ntBytes n)).sum
def RowV(w:World)(p:Nat→Prop)(v:Value)(m:Nat)(cs:List (List Value)):Prop:=
 ∃(a:Option Addr) (c:Nat),v= .slice a cs.length c∧ ∀k,(h:k<cs.length)→ ∃b off,a=some ⟨b,off,none⟩∧p b∧ ∀j x,cs[k][j]? =some x→w.cell? ⟨b,off+k*m+j,none⟩=some x
def nfCells(f:NF)(kv sv:Value):List Value:=
 [.string f.name, .int .i64 f.kind, .string f.data, .string f.target, .int .i64 f.mode, .int .i64 f.uid, .int .i64 f.gid, .int .i64 f.time, .int .i64 f.weight, .int .i64 f.hidden,kv,sv]
def strCells(l:List (ByteArray × ByteArray)):List (List Value):=l.map fun s=>[.string s.1, .string s.2]
def NodeV(w:World)(p:Nat→Prop):(n:Nat)→NT n→List Value→Prop
 |0,_,_=>False
 |n+1,t,vs=> ∃(kv sv:Value) (kcs:List (List Value)),vs=nfCells t.1 kv sv∧RowV w p sv 2 (strCells t.1.streams)∧RowV w p kv 12 kcs∧kcs.length=t.2.length∧
   ∀k,(h:k<t.2.length)→(h':k<kcs.length)→NodeV w p n t.2[k] kcs[k]
theorem RowV.frame{w w':World}{p q:Nat→Prop}{v:Value}{m:Nat}{cs:List (List Value)}(h:RowV w p v m cs)(hb: ∀b,p b→q b∧ ∀o,w'.cell? ⟨b,o,none⟩=w.cell? ⟨b,o,none⟩):RowV w' q v m cs:=by
 obtain ⟨a,c,rfl,h⟩:=h
 refine ⟨a,c,rfl,fun k hk=>?_⟩
 obtain ⟨b,off,h1,h2,h3⟩:=h k hk
 exact ⟨b,off,h1,(hb b h2).1,fun j x hx=>((hb b h2).2 _).trans (h3 j x hx)⟩
theorem NodeV.frame{w w':World}{p q:Nat→Prop}(hb: ∀b,p b→q b∧ ∀o,w'.cell? ⟨b,o,none⟩=w.cell? ⟨b,o,none⟩): ∀ {n:Nat} {t:NT n} {vs:List Value},NodeV w p n t vs→NodeV w' q n t vs
 |0,_,_,h=>h
 |n+1,t,vs,h=>by
  obtain ⟨kv,sv,kcs,h1,h2,h3,h4,h5⟩:=h
  exact ⟨kv,sv,kcs,h1,h2.frame hb,h3.frame hb,h4,fun k hk hk'=>NodeV.frame hb (h5 k hk hk')⟩
theorem frame_below{B:Nat}{w w':World}(hb:Below B w w'): ∀b,b<B→b<B∧ ∀o,w'.cell? ⟨b,o,none⟩=w.cell? ⟨b,o,none⟩:=fun _ h=>⟨h,fun _=>hb.cell h⟩
theorem NodeV.below{w w':World}{B:Nat}(hb:Below B w w'){n:Nat}{t:NT n}{vs:List Value}(h:NodeV w (· < B) n t vs):NodeV w' (· < B) n t vs:=h.frame (frame_below hb)
theorem NodeV.mono{w:World}{B B':Nat}(hb:B≤B'){n:Nat}{t:NT n}{vs:List Value}(h:NodeV w (· < B) n t vs):NodeV w (· < B') n t vs:=h.frame fun _ h=>⟨Nat.lt_of_lt_of_le h hb,fun _=>rfl⟩
theorem RowV.below{w w':World}{B:Nat}{v:Value}{m:Nat}{cs:List (List Value)}(h:RowV w (· < B) v m cs)(hb:Below B w w'):RowV w' (· < B) v m cs:=h.frame (frame_below hb)
theorem NodeV.len{w:World}{p:Nat→Prop}: ∀ {n:Nat} {t:NT n} {vs:List Value},NodeV w p n t vs→vs.length=12
 |0,_,_,h=>h.elim
 |_+1,_,_,⟨_,_,_,h,_⟩=>by rw[h];rfl
theorem RowV.at{w:World}{p:Nat→Prop}{v:Value}{m:Nat}{cs:List (List Value)}(h:RowV w p v m cs){k:Nat}(hk:k<cs.length):
 ∃b off c,v= .slice (some ⟨b,off,none⟩) cs.length c∧p b∧ ∀j x,cs[k][j]? =some x→w.cell? ⟨b,off+k*m+j,none⟩=some x:=by
 obtain ⟨a,c,rfl,h⟩:=h
 obtain ⟨b,off,rfl,h2,h3⟩:=h k hk
 exact ⟨b,off,c,rfl,h2,h3⟩
theorem sum_take{α:Type}(f:α→Nat)(l:List α)(k:Nat)(h:k<l.length):((l.take (k+1)).map f).sum=((l.take k).map f).sum+f l[k]:=by
 rw[List.take_succ_eq_append_getElem h,List.map_append,List.sum_append];rfl
theorem sum_take_le{α:Type}(f:α→Nat)(l:List α)(k:Nat):((l.take k).map f).sum≤(l.map f).sum:=by
 conv=>rhs;rw[←List.take_append_drop k l,List.map_append,List.sum_append]
 exact Nat.le_add_right _ _
theorem run_loadVar_at{P:Program}(w:World)(a:Addr)(ty:TypeId)(cs:List Value)(d:TypeDesc)(hc: ∀j v,cs[j]? =some v→w.cell? (a.add j)=some v)
 (hu:P.underlying ty=some d) (hd:(match d with| .struct _| .array _ _=>true|_=>false)=true) (hi:(P.info? ty).map (·.size)=some cs.length):(loadVar ty a).run P w= .ok (.agg cs.toArray) w:=by
 have hl:(loadCells a cs.length).run P w= .ok cs.toArray w:=run_loadCells_list (P:=P) w a cs hc
 cases hq:P.info? ty with
 |none=>simp[hq] at hi
 |some i=>
  have hs:i.size=cs.length:=by simpa[hq] using hi
  have hagg:(isAgg ty).run P w= .ok true w:=by
   unfold isAgg
   rw[Sem.run_bind,run_underlying hu w]
   cases d <;> simp_all
  simp[loadVar,Sem.run_bind,hagg,sizeOf,typeInfo,hq,hs,hl]
theorem wpList_load_at{P:Program}{w:World}{ops:Array Oper}{rest:List Oper}{o:Oper}{a:Act}{Q:Exit→Act→World→Prop}(hgd:o.guard=none)(p:Operand)(ty:TypeId)(ho:o.op= .load ty p)
 (b off:Nat) (cs:List Value) (d:TypeDesc) (hp:a.eval p= .pointer (some ⟨b,off,none⟩)) (hc: ∀j v,cs[j]? =some v→w.cell? ⟨b,off+j,none⟩=some v) (hu:P.underlying ty=some d)
 (hd:(match d with| .struct _| .array _ _=>true|_=>false)=true) (hi:(P.info? ty).map (·.size)=some cs.length) (h:wpList P ops Q rest (a.put o.dst (.agg cs.toArray)) w):wpList P ops Q (o::rest) a w:=
 wpList_plain hgd fun K hK=>by
  have hr:=run_loadVar_at (P:=P) w ⟨b,off,none⟩ ty cs d (fun j v hv=>by
   have hadd:(⟨b,off,none⟩:Addr).add j=⟨b,off+j,none⟩:=by unfold Addr.add;split <;> simp_all
   rw[hadd];exact hc j v hv) hu hd hi
  unfold Oper.wp execOp
  simp only[ho,Instr.loadAt,Instr.sureAddr,Sem.run_bind,Sem.run_pure,Result.andThen_ok,hp,hr]
  exact hK _ _ h
end Go.Proofs.YtbeccmkegckjjaaGreatDoor
end
