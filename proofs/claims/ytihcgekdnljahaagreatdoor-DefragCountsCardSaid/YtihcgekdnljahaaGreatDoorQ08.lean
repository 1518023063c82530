/- Law 54, DefragCounts: a part of the proof. -/
import Derived.Test.YtihcgekdnljahaaGreatDoorQ07
import Derived.RangeFuncNested
import Derived.RangeFuncBound
import Derived.RangeFuncCalls
import Derived.RangeFuncBox
import Derived.RangeFuncLeaves
import Derived.Shelf.Abstract
import Derived.WalkKit
import Derived.OwnWalkIn
import Derived.TacticsInMore
import Derived.LoopNIn
import Derived.LoopIn
import Derived.Maps.OwnIn
import Derived.Sort.CutIn
section
namespace Go.Proofs.YtihcgekdnljahaaGreatDoor
open Go.RowKit Go.Lib
set_option maxRecDepth 1000000
set_option maxHeartbeats 3200000
def outBlk(B:Nat)(w:World):Option Nat:=(w.cell? ⟨B,0,none⟩).bind Value.ownBlock
theorem outBlk_same{B:Nat}{w w':World}(h:w'.heap[B]? =w.heap[B]?):outBlk B w'=outBlk B w:=by
 unfold outBlk World.cell?
 rw[h]
structure KO (B:Nat) (w w':World):Prop where
 size:w.heap.size≤w'.heap.size
 keep: ∀k o,w.heap[k]? =some o→(o.isCells||o.isWalk)=true→k≠B→outBlk B w≠some k→w'.heap[k]? =some o
 blk:outBlk B w'=outBlk B w∨ ∃k,outBlk B w'=some k∧w.heap.size≤k∧k<w'.heap.size
theorem lt_of_obj{w:World}{k:Nat}{o:Obj}(h:w.heap[k]? =some o):k<w.heap.size:=(Array.getElem?_eq_some_iff.1 h).1
theorem KO.trans{B:Nat}{w w1 w2:World}(h:KO B w w1)(k:KO B w1 w2):KO B w w2 where
 size:=Nat.le_trans h.size k.size
 keep:=fun i o hi hc hB ho=>k.keep i o (h.keep i o hi hc hB ho) hc hB (by
  rcases h.blk with e|⟨j,e,h1,_⟩
  ·rw[e];exact ho
  ·rw[e];intro e';injection e' with e';have:=lt_of_obj hi;omega)
 blk:=by
  rcases k.blk with e|⟨j,e,h1,h2⟩
  ·rcases h.blk with e1|⟨j,e1,h1,h2⟩
   ·exact .inl (e.trans e1)
   ·exact .inr ⟨j,e.trans e1,h1,Nat.lt_of_lt_of_le h2 k.size⟩
  ·exact .inr ⟨j,e,Nat.le_trans h.size h1,h2⟩
theorem KO.putObj{B:Nat}{w:World}(hB:B<w.heap.size)(W:World)(l:Nat)(o o':Obj)(hl:w.heap.size≤l)(ho:W.heap[l]? =some o)(hc:o.isCells=false)(hw:o.isWalk=false):KO B W (W.putObj l o') where
 size:=(grownBy_putObj' W l o').size
 keep:=fun k o1 hk hk1 _ _=>((grownBy_putObj' W l o').block k (lt_of_obj hk) (fun e=>by
  injection e with e
  subst e
  rw[ho] at hk
  injection hk with hk
  subst hk
  rw[hc,hw] at hk1
  exact Bool.noConfusion hk1)).trans hk
 blk:= .inl (outBlk_same ((grownBy_putObj' W l o').block B (by have:=lt_of_obj ho;omega) (fun e=>by injection e with e;omega)))
structure Stays (W0:World) (B:Nat) (wr:World):Prop where
 size:W0.heap.size≤wr.heap.size
 keep: ∀k o,W0.heap[k]? =some o→(o.isCells||o.isWalk)=true→k≠B→wr.heap[k]? =some o
 blk: ∀k,outBlk B wr=some k→W0.heap.size≤k∧k<wr.heap.size
theorem Stays.refl{W0:World}{B:Nat}(h:outBlk B W0=none):Stays W0 B W0:=⟨Nat.le_refl _,fun _ _ h _ _=>h,fun k e=>by rw[h] at e;cases e⟩
theorem Stays.below{W0 wr w':World}{B:Nat}(h:Stays W0 B wr)(hB:B<W0.heap.size)(hb:Below wr.heap.size wr w'):Stays W0 B w' where
 size:=Nat.le_trans h.size hb.size
 keep:=fun k o hk hc hne=>(hb.block k (lt_of_obj (h.keep k o hk hc hne))).trans (h.keep k o hk hc hne)
 blk:=fun k e=>by
  rw[outBlk_same (hb.block B (Nat.lt_of_lt_of_le hB h.size))] at e
  exact ⟨(h.blk k e).1,Nat.lt_of_lt_of_le (h.blk k e).2 hb.size⟩
theorem Stays.ko{W0 wr w':World}{B:Nat}(h:Stays W0 B wr)(hk:KO B wr w'):Stays W0 B w' where
 size:=Nat.le_trans h.size hk.size
 keep:=fun k o ho hc hne=>hk.keep k o (h.keep k o ho hc hne) hc hne (fun e=>by have:=(h.blk k e).1;have:=lt_of_obj ho;omega)
 blk:=fun k e=>by
  rcases hk.blk with e1|⟨j,e1,h1,h2⟩
  ·rw[e1] at e;exact ⟨(h.blk k e).1,Nat.lt_of_lt_of_le (h.blk k e).2 hk.size⟩
  ·rw[e1] at e;injection e with e;subst e;exact ⟨Nat.le_trans h.size h1,h2⟩
theorem Stays.cell{W0 wr:World}{B b o:Nat}{x:Value}(h:Stays W0 B wr)(hc:W0.cell? ⟨b,o,none⟩=some x)(hne:b≠B):wr.cell? ⟨b,o,none⟩=some x:=by
 obtain ⟨ob,h1,h2⟩:=cells_of_cell hc
 rw[←hc]
 unfold World.cell?
 rw[h.keep b ob h1 (by rw[h2];rfl) hne,show W0.heap[(⟨b,o,none⟩:Addr).block]? =some ob from h1]
theorem KO.cell{wr w':World}{B b o:Nat}{x:Value}(h:KO B wr w')(hc:wr.cell? ⟨b,o,none⟩=some x)(hne:b≠B)(hno:outBlk B wr≠some b):w'.cell? ⟨b,o,none⟩=some x:=by
 obtain ⟨ob,h1,h2⟩:=cells_of_cell hc
 rw[←hc]
 unfold World.cell?
 rw[h.keep b ob h1 (by rw[h2];rfl) hne hno,show wr.heap[(⟨b,o,none⟩:Addr).block]? =some ob from h1]
theorem KO.appended{B n₀:Nat}{t e:TypeId}{size:Nat}{W w1:World}{v v':Value}{k:Nat}{xs:List Value}{tmp:Obj}(hv:Boxed W B t v)(hte:t≠e)(hrow:W.ownsRow n₀ e size v k xs)
 (hgrow:(W.alloc tmp).grownBy w1 v.ownBlock) (hblk:v'.ownBlock=v.ownBlock∨v'.ownBlock=some (W.alloc tmp).heap.size) (hlt: ∀g,v'.ownBlock=some g→g<w1.heap.size):KO B W (w1.setCell ⟨B,0,none⟩ v'):=by
 have hv1:Boxed w1 B t v:=(hv.alloc tmp).kept hgrow (hv.not_row hte hrow)
 have ho:outBlk B W=v.ownBlock:=by unfold outBlk;rw[hv.cell];rfl
 have ho':outBlk B (w1.setCell ⟨B,0,none⟩ v')=v'.ownBlock:=by unfold outBlk;rw[(hv1.set v').cell];rfl
 have hsz:=(grownBy_setCell' w1 B v').size
 have hs1:W.heap.size+1≤w1.heap.size:=by have:=hgrow.size;rwa [World.size_alloc] at this
 refine ⟨by omega,fun i o hi hc hne hno=>?_,?_⟩
 ·have hi1:(W.alloc tmp).heap[i]? =some o:=(Below.heap_alloc W tmp i (lt_of_obj hi)).trans hi
  have hi2:w1.heap[i]? =some o:=(hgrow.block i (lt_of_obj hi1) (fun e=>hno (ho.trans e.symm))).trans hi1
  exact ((grownBy_setCell' w1 B v').block i (lt_of_obj hi2) (fun e=>hne (by injection e))).trans hi2
 ·rw[ho,ho']
  rcases hblk with e|e
  ·exact .inl e
  ·refine .inr ⟨_,e,by rw[World.size_alloc];omega,?_⟩
   have:=hlt _ e
   omega
theorem KO.counted{B:Nat}{W:World}{t:TypeId}{v:Value}(hb:Boxed W B t v)(hv:v.ownBlock=none)(v':Value)(hv':v'.ownBlock=none):KO B W (W.setCell ⟨B,0,none⟩ v'):=by
 refine ⟨(grownBy_setCell' W B v').size,fun i o hi _ hne _=>((grownBy_setCell' W B v').block i (lt_of_obj hi) (fun e=>hne (by injection e))).trans hi, .inl ?_⟩
 unfold outBlk
 rw[(hb.set v').cell,hb.cell]
 show v'.ownBlock=v.ownBlock
 rw[hv,hv']
theorem MapV.ko{B b n:Nat}{w w':World}{z:Value}{m:ByteArray→Value}(h:MapV w b n z m)(hk:KO B w w')(hne:b≠B)(ho:outBlk B w≠some b):MapV w' b n z m:=by
 obtain ⟨D,⟨es,clock,h1,h3⟩,h2⟩:=h
 exact ⟨D,⟨es,clock,hk.keep b _ h1 rfl hne ho,h3⟩,h2⟩
theorem ownsRow_ko{B:Nat}{w w':World}(hk:KO B w w'){base:Nat}{e:TypeId}{size:Nat}{v:Value}{n:Nat}{xs:List Value}(h:w.ownsRow base e size v n xs)(hB:B<base)(ha: ∀g,v.ownBlock=some g→outBlk B w≠some g):w'.ownsRow base e size v n xs:=by
 obtain ⟨h1,h2⟩:=h
 refine ⟨h1,?_⟩
 rcases h2 with h2|⟨g,cap,cur,e1,e2,e3,e4⟩
 ·exact .inl h2
 ·exact .inr ⟨g,cap,cur,e1,e2,hk.keep g _ e3 rfl (by omega) (ha g (by rw[e1];rfl)),e4⟩
theorem apart_ko{B g:Nat}{w w':World}(hk:KO B w w')(hg:g<w.heap.size)(h:outBlk B w≠some g):outBlk B w'≠some g:=by
 rcases hk.blk with e|⟨j,e,h1,_⟩
 ·rw[e];exact h
 ·rw[e];intro e';injection e' with e';omega
section
variable {F:Fence} {n:Nat} {P:Program} {w:World} {ops:Array Oper} {rest:List Oper} {o:Oper} {a:Act} {Q:Exit→Act→World→Prop}
theorem wpListIn_load_at(hgd:o.guard=none)(p:Operand)(ty:TypeId)(ho:o.op= .load ty p)
 (b off:Nat) (cs:List Value) (d:TypeDesc) (hp:a.eval p= .pointer (some ⟨b,off,none⟩)) (hc: ∀j v,cs[j]? =some v→w.cell? ⟨b,off+j,none⟩=some v) (hu:P.underlying ty=some d)
 (hd:(match d with| .struct _| .array _ _=>true|_=>false)=true) (hi:(P.info? ty).map (·.size)=some cs.length) (h:wpListIn F n P ops Q rest (a.put o.dst (.agg cs.toArray)) w):wpListIn F n P ops Q (o::rest) a w:=
 wpListIn_plain hgd fun K hK=>by
  have hr:=run_loadVar_at (P:=P) w ⟨b,off,none⟩ ty cs d (fun j v hv=>by
   have hadd:(⟨b,off,none⟩:Addr).add j=⟨b,off+j,none⟩:=by unfold Addr.add;split <;> simp_all
   rw[hadd];exact hc j v hv) hu hd hi
  refine ⟨by intro f hf;simp[Oper.about,ho] at hf,?_⟩
  rw[Oper.semAt_plain F _ _ (by rw[ho];intro c hc';cases hc')]
  unfold execOp
  simp only[ho,Instr.loadAt,Instr.sureAddr,Sem.run_bind,Sem.run_pure,Result.andThen_ok,hp,hr]
  exact hK _ _ h
theorem wpListIn_store_row(hgd:o.guard=none)(p x:Operand)(ty:TypeId)(ho:o.op= .store ty p x)
 (g:Nat) (t:TypeId) (old vs:Array Value) (hp:a.eval p= .pointer (some ⟨g,0,none⟩)) (hx:a.eval x= .agg vs) (hg:w.heap[g]? =some (.cells old t (0,0))) (m:Nat) (hi:(P.info? ty).map (·.size)=some m)
 (hs:old.size=m) (hv:vs.size=m) (h1:vs.all (·.oneCell')=true) (h:wpListIn F n P ops Q rest (a.put o.dst undef) (w.setRow g vs)):wpListIn F n P ops Q (o::rest) a w:=
 wpListIn_plain hgd fun K hK=>by
  have hr:=run_storeVar_row (P:=P) w g t ty old vs hg (by rw[hv];exact hi) (by rw[hv];exact hs) h1
  refine ⟨by intro f hf;simp[Oper.about,ho] at hf,?_⟩
  rw[Oper.semAt_plain F _ _ (by rw[ho];intro c hc';cases hc')]
  unfold execOp
  simp only[ho,Instr.storeAt,Instr.sureAddr,Sem.run_bind,Sem.run_pure,Result.andThen_ok,hp,hx,hr]
  exact hK _ _ h
theorem wpListIn_look_v(hgd:o.guard=none)(mo x:Operand)(t:TypeId)(ho:o.op=Op.lookup t mo x false)(e:TypeId)(ht:Tryz.prog.underlying t=some (.map 9 e))(z:Value)(hz:(zeroValue e).run Tryz.prog w= .ok z w)
 (b nn:Nat) (m:ByteArray→Value) (hm:a.eval mo= .map (some b)) (h:MapV w b nn z m) (p:ByteArray) (hx:a.eval x= .string p) (hp:p.size≤maxLen) (hK:wpListIn F n Tryz.prog ops Q rest (a.put o.dst (m p)) w):
 wpListIn F n Tryz.prog ops Q (o::rest) a w:=
 wpListIn_plain hgd fun K' hK'=>by
  have hrun:=h.look ht hz hp
  refine ⟨by intro f hf;simp[Oper.about,ho] at hf,?_⟩
  rw[Oper.semAt_plain F _ _ (by rw[ho];intro c hc';cases hc')]
  simp[execOp,ho,hm,hx,hrun,Result.andThen]
  exact hK' _ _ hK
theorem wpListIn_store_v(hgd:o.guard=none)(mo x v:Operand)(t:TypeId)(ho:o.op=Op.mapUpdate t mo x v)(e:TypeId)(ht:Tryz.prog.underlying t=some (.map 9 e))(z:Value)
 (b nn:Nat) (m:ByteArray→Value) (hm:a.eval mo= .map (some b)) (h:MapV w b nn z m) (hn:nn<maxLen) (p:ByteArray) (hx:a.eval x= .string p) (hp:p.size≤maxLen) (val:Value) (hv:a.eval v=val)
 (hK: ∀w',MapV w' b (nn+1) z (upd m p val)→w.grownBy w' (some b)→wpListIn F n Tryz.prog ops Q rest (a.put o.dst undef) w'):
 wpListIn F n Tryz.prog ops Q (o::rest) a w:=
 wpListIn_plain hgd fun K' hK'=>by
  obtain ⟨w',hrun,r1,r2⟩:=h.store ht hn hp val
  refine ⟨by intro f hf;simp[Oper.about,ho] at hf,?_⟩
  rw[Oper.semAt_plain F _ _ (by rw[ho];intro c hc';cases hc')]
  simp[execOp,ho,hm,hx,hv,hrun,Result.andThen]
  exact hK' _ _ (hK w' r1 r2)
end
end Go.Proofs.YtihcgekdnljahaaGreatDoor
end
section
namespace Go.Proofs.YtihcgekdnljahaaGreatDoor
open Go.RowKit Go.Lib
set_option maxRecDepth 1000000
set_option maxHeartbeats 6400000
def cntM(F:List FileT):ByteArray→Value:=fun p=> .int .i64 ((cntOf F p:Nat):Int)
theorem cntM_empty(F:List FileT)(k:Nat)(h:k<F.length)(hz:F[k].2.2=0):cntM (F.take (k+1))=cntM (F.take k):=by
 funext p
 unfold cntM
 rw[cntOf_take F p k h,if_neg (fun x=>x.2 hz)]
 rfl
theorem cntM_full(F:List FileT)(k:Nat)(h:k<F.length)(hz: ¬F[k].2.2=0):cntM (F.take (k+1))=upd (cntM (F.take k)) F[k].1 (.int .i64 ((cntOf (F.take k) F[k].1:Nat)+1:Int)):=by
 funext p
 unfold cntM upd
 rw[cntOf_take F p k h]
 by_cases hp:p=F[k].1
 ·subst hp
  rw[if_pos ⟨rfl,hz⟩,if_pos rfl]
  rfl
 ·rw[if_neg (fun x=>hp x.1.symm),if_neg hp]
  rfl
abbrev PairT:=ByteArray × Fin 1101
def cf(F:List FileT)(p:ByteArray):Fin 1101:=⟨cntOf F p % 1101,Nat.mod_lt _ (by omega)⟩
theorem cf_val{F:List FileT}(hl:F.length≤1100)(p:ByteArray):(cf F p).val=cntOf F p:=by
 have:=cntOf_len F p
 exact Nat.mod_eq_of_lt (by omega)
def pairsOf(F:List FileT):List PairT:=(pathsOf F).map fun p=>(p,cf F p)
def pairC(x:PairT):Array Value:= #[.string x.1, .int .i64 ((x.2.val:Nat):Int)]
def sizesOK(F:List FileT):Prop:= ∀f∈F,f.1.size≤maxLen
theorem paths_mem{F:List FileT}{p:ByteArray}(h:p∈pathsOf F): ∃f∈F,f.1=p:=by
 have h1:=(mem_pathsOf F p).1 h
 unfold cntOf at h1
 obtain ⟨f,hf⟩:=List.exists_mem_of_length_pos h1
 rw[List.mem_filter] at hf
 exact ⟨f,hf.1,by simpa using (Bool.and_eq_true_iff.1 hf.2).1⟩
theorem MapV.mono{w:World}{b n n':Nat}{z:Value}{m:ByteArray→Value}(h:MapV w b n z m)(hn:n≤n'):MapV w b n' z m:=by
 obtain ⟨D,h1,h2⟩:=h
 exact ⟨D,h1.mono hn,h2⟩
theorem own_other{w w':World}{base b:Nat}{e:TypeId}{size:Nat}{v:Value}{n:Nat}{xs:List Value}(h:w.ownsRow base e size v n xs)(hg:w.grownBy w' (some b))(hb:b<base):w'.ownsRow base e size v n xs:=
 h.kept hg (by
  cases hv:v.ownBlock with
  |none=>exact .inl rfl
  |some g=>exact .inr (fun e=>by injection e with e;have:=(h.lt g hv).1;omega))
theorem map_other{w w':World}{base b k:Nat}{z:Value}{m:ByteArray→Value}{e:TypeId}{size:Nat}{v:Value}{n:Nat}{xs:List Value}(h:MapV w b k z m)(ho:w.ownsRow base e size v n xs)(hg:w.grownBy w' v.ownBlock)(hb:b<base):MapV w' b k z m:=
 h.kept hg (fun e=>by have:=(ho.lt b e.symm).1;omega)
theorem p_paths1(n l:Nat)(F:List FileT)(v:Value)(B Bn Bo:Nat)(W:World)
 (hv:RowV W (· < B) v 3 (fileCells F)) (hB:B≤Bo) (hBoW:Bo<W.heap.size) (hout:outBlk Bo W=none) (hl:F.length≤1100) (hsz:sizesOK F)
 (hbox:W.cell? ⟨Bn,0,none⟩=some v) (J Jx:List PairT→World→Prop) (hJ:AbidesFrom W.heap.size J)
 (hY: ∀pre x W1,J pre W1→pre.length<(pairsOf F).length→YieldAt Fence.wide (n-1) Tryz.prog l (pairC x) W1 fun e W'=>(e= .returned (.bool true)∧J (pre++[x]) W'∧KO Bo W1 W')∨(e= .returned (.bool false)∧Jx (pre++[x]) W'))
 (h0:J [] W):
 CallsIn Fence.wide n Tryz.prog 45 #[.func (.yield l) #[] #[], .pointer (some ⟨Bn,0,none⟩)] W fun e W'=>(∃v,e= .returned v)∧((∃xs,xs=pairsOf F∧J xs W')∨(∃pre,pre <+: pairsOf F∧Jx pre W')):=by
 obtain ⟨i0,hi,hz0,hz1,hz2⟩:=info_parts info_str
 have JB:=hQ (show ∀pre a b,J pre a→Below a.heap.size a b→W.heap.size≤a.heap.size→J pre b from fun pre a b h hb hs=>hJ pre a b none h ⟨hb.os,hb.tape,hb.output,hb.size,fun k hk _=>hb.block k hk⟩ (fun r e=>by cases e))
 have JB0:=hQ (show ∀b,Below W.heap.size W b→J [] b from fun b hb=>hJ [] W b none h0 ⟨hb.os,hb.tape,hb.output,hb.size,fun k hk _=>hb.block k hk⟩ (fun r e=>by cases e))
 have HY:=hQ hY
 have HSZ:=hQ hsz
 have HO0:=hQ hout
 obtain ⟨a,c,rfl,hrow⟩:=file_cells hv
 have HROW:=hQ hrow
 have hbn:=World.block_lt_of_cell? _ _ hbox
 replace hbn:Bn<W.heap.size:=hbn
 have HBN:=hQ (show ∀wr,Below W.heap.size W wr→wr.cell? ⟨Bn,0,none⟩=some (.slice a F.length c) from fun wr h=>(h.cell hbn).trans hbox)
 clear hrow hv hY hsz hout h0
 refine callsIn_of_wp Tryz.func45 rfl trivial ?_ rfl
 simp only[Tryz.ntmps45,List.size_toArray,List.length_cons,List.length_nil,Nat.reduceAdd,Nat.reduceSub,Array.replicate_succ,Array.replicate_zero,List.push_toArray,List.append_toArray,List.nil_append,List.cons_append]
 have hmade:=MapV_made W (.int .i64 0)
 have hb1:=below_alloc1 W (.map #[] 0)
 have c1:=HBN.out _ hb1
 have hmm:= @run_makeMap Tryz.prog
 have hsz1:(W.alloc (.map #[] 0)).heap.size=W.heap.size+1:=by simp
 gi_wp2
 generalize W.alloc (.map #[] 0)=w1 at*
 gi_loopw [4,12] (fun out i wr=> ∃k:Nat,i= .int .i64 k∧k≤F.length∧MapV wr W.heap.size k (.int .i64 0) (cntM (F.take k))∧wr.ownsRow (W.heap.size+1) 9 1 out (pathsOf (F.take k)).length (strsV (pathsOf (F.take k)))∧Below W.heap.size W wr∧W.heap.size+1≤wr.heap.size) (fun _ i _=>F.length-(RowKit.intOf i).toNat)
 case atStart=>exact ⟨0,rfl,Nat.zero_le _,hmade,World.ownsRow_nil ..,hb1,by omega⟩
 case round=>
  clear hmade hb1 c1 hsz1 hmm
  obtain ⟨k,rfl,hk,hmap,hown,hbw,hs⟩:=hrel
  by_cases hlt:k<F.length
  ·have hi':(k:Int)<F.length:=by omega
   obtain ⟨b,off,rfl,hbB,hcw⟩:=HROW.out k hlt
   have HCELL:=hQ (fun j x hx=>(hbw.cell (p:=⟨b,off+k*3+j,none⟩) (show b<W.heap.size by omega)).trans (hcw j x hx))
   clear hcw
   have HT:=hQ (pathsOf_take F k hlt)
   have HL:=hQ (show (pathsOf (F.take k)).length≤k by have:=pathsOf_len (F.take k);simp at this;omega)
   have HP:=hQ (show F[k].1.size≤maxLen from HSZ.out _ (List.getElem_mem hlt))
   have HM:=hQ (mem_pathsOf (F.take k) F[k].1)
   have HC0:=hQ (fun h=>cntM_empty F k hlt h)
   have HC1:=hQ (fun h=>cntM_full F k hlt h)
   have hcl:=cntOf_len (F.take k) F[k].1
   rw[List.length_take] at hcl
   have HCV:=hQ (show cntM (F.take k) F[k].1= .int .i64 ((cntOf (F.take k) F[k].1:Nat):Int) from rfl)
   generalize F[k]=d at*
   generalize hL:pathsOf (F.take k)=L at*
   clear hL
   generalize cntM (F.take k)=mk at*
   obtain ⟨oa,oc,rfl⟩:=own_slice hown
   obtain ⟨p,st,ln⟩:=d
   replace HCELL:=hQ (show ∀j x,([.string p, .int .i64 st, .int .i64 ln]:List Value)[j]? =some x→wr.cell? ⟨b,off+k*3+j,none⟩=some x from HCELL.out)
   replace HP:=hQ (show p.size≤maxLen from HP.out)
   replace HM:=hQ (show p∈L↔0<cntOf (F.take k) p from HM.out)
   replace HC0:=hQ (show ln=0→cntM (F.take (k+1))=mk from HC0.out)
   replace HC1:=hQ (show ¬ln=0→cntM (F.take (k+1))=upd mk p (.int .i64 ((cntOf (F.take k) p:Nat)+1:Int)) from HC1.out)
   replace HCV:=hQ (show mk p= .int .i64 ((cntOf (F.take k) p:Nat):Int) from HCV.out)
   replace HT:=hQ (show pathsOf (F.take (k+1))=addP L (p,st,ln) from HT.out)
   replace hcl:cntOf (F.take k) p≤min k F.length:=hcl
   generalize hq:cntOf (F.take k) p=cn at*
   clear hq
   have cb:=HBN.out _ hbw
   gi_upto_region 5 with (first
    |(refine wpListIn_load_at rfl _ _ rfl b (off+k*3) [.string p, .int .i64 st, .int .i64 ln] _ rfl HCELL.out Tryz.underlying33 rfl file_size ?_)
    |(refine wpListIn_store_row rfl _ _ _ rfl wr.heap.size _ #[.string ⟨#[]⟩, .int .i64 0, .int .i64 0] [.string p, .int .i64 st, .int .i64 ln].toArray rfl rfl (heap_alloc_last _ _) 3 file_size rfl rfl rfl ?_)
    |fail)
   have hbox2:Box 33 wr.heap.size [.string p, .int .i64 st, .int .i64 ln] (wr.alloc (.cells #[.string p, .int .i64 st, .int .i64 ln] 33)):=heap_alloc_last _ _
   have hbel2:=below_alloc1 wr (.cells #[.string p, .int .i64 st, .int .i64 ln] 33)
   have HMAP:=hQ (hmap.alloc (.cells #[.string p, .int .i64 st, .int .i64 ln] 33))
   have HOWN:=hQ (hown.alloc (.cells #[.string p, .int .i64 st, .int .i64 ln] 33))
   have HG:=hQ (show (Value.slice oa L.length oc).ownBlock≠some wr.heap.size from fun e=>by have:=(hown.lt _ e).2;omega)
   generalize wr.alloc (.cells #[.string p, .int .i64 st, .int .i64 ln] 33)=w2 at*
   have HBW:=hQ (hbw.trans (hbel2.mono hbw.size))
   have hs2:W.heap.size+1≤w2.heap.size:=Nat.le_trans hs hbel2.size
   have c0:=hbox2.cell 0 _ rfl
   have c2:=hbox2.cell 2 _ rfl
   clear hmap hown hbw hbel2 HCELL hbox2 cb
   generalize wr.heap.size=g at*
   by_cases hz:ln=0
   ·have HE:=hQ (show pathsOf (F.take (k+1))=L by rw[HT.out];exact if_pos hz)
    have HM2:=hQ (HC0.out hz)
    subst hz
    gi_wp2
    go_roundw
    case rel=>exact ⟨k+1,by go_num,by omega,by rw[HM2.out];exact HMAP.out.mono (by omega),by rw[HE.out];exact HOWN.out,HBW.out,hs2⟩
    case measure=>simp[RowKit.intOf];omega
   ·have HM2:=hQ (HC1.out hz)
    by_cases hq0:cn=0
    ·have hnp: ¬p∈L:=fun h=>by have:=HM.out.1 h;omega
     have HE:=hQ (show pathsOf (F.take (k+1))=L++[p] by rw[HT.out];unfold addP;rw[if_neg hz,if_neg (fun e=>hnp (hasP_iff.1 e))])
     have hLk:=HL.out
     clear HT HM HC0 HC1 hnp HL
     subst hq0
     gi_wp2_with (first
      |(gi_at_lookup;refine wpListIn_look_v rfl _ _ _ rfl _ Tryz.underlying129 (.int .i64 0) (Tryz.zeroValue3 _) W.heap.size k mk rfl HMAP3.out p rfl HP.out ?_;rw[HCV.out])
      |(gi_at_lookup;refine wpListIn_look_v rfl _ _ _ rfl _ Tryz.underlying129 (.int .i64 0) (Tryz.zeroValue3 _) W.heap.size k mk rfl HMAP.out p rfl HP.out ?_;rw[HCV.out])
      |(gi_at_builtin;refine wpListIn_append_own_at _ rfl _ _ 28 rfl (W.heap.size+1) 9 i0 (.string ⟨#[]⟩) 1 16 Tryz.underlying28 hi hz0 hz1 hz2 rfl (by decide) _ _ _ rfl (HOWN.out.alloc _) ⟨w2.heap.size,0,none⟩ 1 1 [.string p] rfl rfl (cell_one_new _ _ _) (by simp[Value.oneCell']) (by unfold maxLen;omega) (by omega) (by simp;omega) ?_
        intro v3 w3 hown3 hgrow3 _ _
        have HOWN3:=hQ hown3
        have HMAP3:=hQ (map_other (HMAP.out.alloc _) (HOWN.out.alloc (.cells #[.string p] 9)) hgrow3 (Nat.lt_succ_self _))
        have HBW3:=hQ ((HBW.out.alloc HBW.out.size _).grown hgrow3 (HBW.out.alloc HBW.out.size _).size (fun j hj=>Nat.le_of_succ_le (HOWN.out.lt j hj).1))
        have c03:w3.cell? ⟨g,0,none⟩=some (.string p):=(hgrow3.cell_far ⟨g,0,none⟩ (Nat.lt_of_lt_of_le (World.block_lt_of_cell? _ _ c0) (by simp)) (fun e=>HG.out e.symm)).trans (((below_alloc1 w2 _).cell (World.block_lt_of_cell? _ _ c0)).trans c0)
        have hs3:W.heap.size+1≤w3.heap.size:=Nat.le_trans (Nat.le_trans hs2 (by simp)) hgrow3.size
        clear hown3 hgrow3)
      |(gi_at_mapUpdate;refine wpListIn_store_v rfl _ _ _ _ rfl _ Tryz.underlying129 (.int .i64 0) W.heap.size k mk rfl HMAP3.out (by unfold maxLen;omega) p rfl HP.out _ rfl ?_;intro w4 hmap4 hgrow4)
      |fail)
     refine ⟨⟨k+1,by go_num,by omega,?_,?_,HBW3.out.grown hgrow4 HBW3.out.size (fun j e=>by injection e with e;omega),Nat.le_trans hs3 hgrow4.size⟩,by simp[RowKit.intOf];omega⟩
     ·rw[HM2.out];exact hmap4
     ·rw[HE.out,strsV_snoc,List.length_append];exact own_other HOWN3.out hgrow4 (Nat.lt_succ_self _)
    ·have hnp:p∈L:=HM.out.2 (by omega)
     have HE:=hQ (show pathsOf (F.take (k+1))=L by rw[HT.out];unfold addP;rw[if_neg hz,if_pos (hasP_iff.2 hnp)])
     clear HT HM HC0 HC1 hnp HL
     have hq1: ¬(cn:Int)=0:=by omega
     gi_wp2_with (first
      |(gi_at_lookup;refine wpListIn_look_v rfl _ _ _ rfl _ Tryz.underlying129 (.int .i64 0) (Tryz.zeroValue3 _) W.heap.size k mk rfl HMAP.out p rfl HP.out ?_;rw[HCV.out])
      |(gi_at_mapUpdate;refine wpListIn_store_v rfl _ _ _ _ rfl _ Tryz.underlying129 (.int .i64 0) W.heap.size k mk rfl HMAP.out (by unfold maxLen;omega) p rfl HP.out _ rfl ?_;intro w4 hmap4 hgrow4)
      |fail)
     refine ⟨⟨k+1,by go_num,by omega,?_,?_,HBW.out.grown hgrow4 HBW.out.size (fun j e=>by injection e with e;omega),Nat.le_trans hs2 hgrow4.size⟩,by simp[RowKit.intOf];omega⟩
     ·rw[HM2.out];exact hmap4
     ·rw[HE.out];exact own_other HOWN.out hgrow4 (Nat.lt_succ_self _)
  ·have hk':k=F.length:=by omega
   subst hk'
   rw[List.take_of_length_le (Nat.le_refl _)] at hmap hown
   have hge:(F.length:Int)≤F.length:=Int.le_refl _
   have HJ0:=hQ (JB0.out wr hbw)
   have HOB:=hQ (show outBlk Bo wr=none by rw[outBlk_same (hbw.block Bo hBoW)];exact HO0.out)
   have hpl:=pathsOf_len F
   have HSP:=hQ (show ∀p∈pathsOf F,p.size≤maxLen from fun p hp=>by obtain ⟨f,hf,rfl⟩:=paths_mem hp;exact HSZ.out f hf)
   have HCV:=hQ (show ∀p,cntM F p= .int .i64 (((cf F p).val:Nat):Int) from fun p=>by unfold cntM;rw[cf_val hl])
   have hpe:(pairsOf F).length=(pathsOf F).length:=by simp[pairsOf]
   have HPT:=hQ (show ∀j,(h:j<(pathsOf F).length)→(pairsOf F).take (j+1)=(pairsOf F).take j++[((pathsOf F)[j],cf F (pathsOf F)[j])] from fun j h=>by
    rw[take_snocF _ j (by omega)];simp[pairsOf])
   have HPX:=hQ (show ∀j,(pairsOf F).take j <+: pairsOf F from fun j=>List.take_prefix _ _)
   generalize hLL:pathsOf F=L at*
   clear hLL
   obtain ⟨oa,oc,rfl⟩:=own_slice hown
   have HMAP:=hQ hmap
   have HOWN:=hQ hown
   clear hmap hown
   gi_wp2
   gi_loopw [37] (fun i wq=> ∃j:Nat,i= .int .i64 j∧j≤L.length∧J ((pairsOf F).take j) wq∧MapV wq W.heap.size F.length (.int .i64 0) (cntM F)∧wq.ownsRow (W.heap.size+1) 9 1 (.slice oa L.length oc) L.length (strsV L)∧outBlk Bo wq≠some W.heap.size∧(∀g,(Value.slice oa L.length oc).ownBlock=some g→outBlk Bo wq≠some g)) (fun i _=>L.length-(RowKit.intOf i).toNat)
   case atStart=>exact ⟨0,rfl,Nat.zero_le _,HJ0.out,HMAP.out,HOWN.out,by rw[HOB.out];simp,fun g _=>by rw[HOB.out];simp⟩
   case round=>
    clear HJ0 HMAP HOWN HOB hbw
    obtain ⟨j,rfl,hj,hJj,hmap,hown,ho1,ho2⟩:=hrel
    by_cases hjl:j<L.length
    ·have hij:(j:Int)<L.length:=by omega
     obtain ⟨g,cap,ho,hc⟩: ∃g cap,Value.slice oa L.length oc= .slice (some ⟨g,0,none⟩) L.length cap∧wr.cell? ⟨g,j,none⟩=some (.string L[j]):=by
      rcases hown.2 with ⟨_,h0⟩|⟨g,cap,_,e,_⟩
      ·omega
      ·refine ⟨g,cap,e,?_⟩
       have hown':=hown
       rw[e] at hown'
       rw[hown'.cellAt j (by omega),strsV,List.getElem?_map,List.getElem?_eq_getElem hjl]
       rfl
     rw[ho] at hown
     have hg:=(hown.lt g (by simp[Value.ownBlock])).1
     have ho3:=ho2 g (by rw[ho];rfl)
     rw[ho]
     clear ho ho2
     have HP:=hQ (HSP.out L[j] (List.getElem_mem hjl))
     have HPTj:=hQ (HPT.out j hjl)
     have HCVj:=hQ (HCV.out L[j])
     obtain ⟨yf,yt,ya,yb,hy,hYR⟩:=HY.out ((pairsOf F).take j) (L[j],cf F L[j]) wr hJj (by rw[List.length_take];omega)
     generalize L[j]=p at*
     generalize cf F p=cv at*
     have HMAP:=hQ hmap
     have HOWN:=hQ hown
     have HYR:=hQ hYR
     have HA1:=hQ ho1
     have HA3:=hQ ho3
     clear hmap hown hYR hJj ho1 ho3
     dsimp only[pairC] at hy
     gi_wp2_with (first
      |(gi_at_lookup;refine wpListIn_look_v rfl _ _ _ rfl _ Tryz.underlying129 (.int .i64 0) (Tryz.zeroValue3 _) W.heap.size F.length (cntM F) rfl HMAP.out p rfl HP.out ?_;rw[HCVj.out])
      |fail)
     refine ⟨fun h=>(by cases h),?_⟩
     refine HYR.out.mono ?_
     rintro e w8 (⟨rfl,hJ8,hk8⟩|⟨rfl,hJx8⟩)
     ·have HJ8:=hQ hJ8
      have HK8:=hQ hk8
      clear hJ8 hk8 hy hc HYR
      gi_wp2
      go_roundw
      case rel=>
       refine ⟨j+1,by go_num,by omega,by rw[HPTj.out];exact HJ8.out,HMAP.out.ko HK8.out (by omega) HA1.out,ownsRow_ko HK8.out HOWN.out (by omega) (fun g' e=>by simp[Value.ownBlock] at e;subst e;exact HA3.out),apart_ko HK8.out HMAP.out.lt HA1.out,fun g' e=>?_⟩
       simp[Value.ownBlock] at e;subst e
       exact apart_ko HK8.out (HOWN.out.lt g (by simp[Value.ownBlock])).2 HA3.out
      case measure=>simp[RowKit.intOf];omega
     ·have HX8:=hQ hJx8
      clear hy hc HYR hJx8
      gi_wp2
      refine bodyPost_ret (results_none rfl _ _ _) rfl ?_
      exact ⟨⟨_,rfl⟩, .inr ⟨_,HPTj.out▸HPX.out (j+1),HX8.out⟩⟩
    ·have hjk:j=L.length:=by omega
     subst hjk
     rw[List.take_of_length_le (by rw[hpe];exact Nat.le_refl _)] at hJj
     have hge:(L.length:Int)≤L.length:=Int.le_refl _
     have HJ9:=hQ hJj
     clear hJj hmap hown ho1 ho2
     gi_wp2
     go_end0
     exact ⟨⟨_,rfl⟩, .inl ⟨_,rfl,HJ9.out⟩⟩
end Go.Proofs.YtihcgekdnljahaaGreatDoor
end
section
namespace Go.Proofs.YtihcgekdnljahaaGreatDoor
open Go.RowKit Go.Lib
set_option maxRecDepth 1000000
set_option maxHeartbeats 6400000
attribute [local go_sem] Oper.semAt_some
theorem p_paths(a:Option Addr)(len cap:Nat)(w:World):Calls Tryz.prog 20 #[.slice a len cap] w fun e w'=>e= .returned (.func (.func 45) #[] #[.pointer (some ⟨w.heap.size,0,none⟩)])∧w'=w.alloc (.cells #[.slice a len cap] 22):=by
 go_enter Tryz.func20,Tryz.ntmps20
 go_wp2
 go_ret
 exact ⟨rfl,rfl⟩
def sumP:List PairT→Int
 |[]=>0
 |x::l=>(((x.2.val:Nat):Int)-1)+sumP l
theorem sumP_snoc(l:List PairT)(x:PairT):sumP (l++[x])=sumP l+(((x.2.val:Nat):Int)-1):=by
 induction l with
 |nil=>simp[sumP]
 |cons y l ih=>rw[List.cons_append,sumP,ih,sumP];omega
theorem sumP_bound(l:List PairT): -(l.length:Int)≤sumP l∧sumP l≤1100*(l.length:Int):=by
 induction l with
 |nil=>simp[sumP]
 |cons y l ih=>
  have:=y.2.isLt
  rw[sumP,List.length_cons]
  omega
theorem sumP_pairs{F:List FileT}(hl:F.length≤1100):sumP (pairsOf F)=fragsOf F:=by
 unfold pairsOf fragsOf
 have h: ∀l:List ByteArray,sumP (l.map fun p=>(p,cf F p))=sumBy (fun p=>(cntOf F p:Int)-1) l:=fun l=>by
  induction l with
  |nil=>rfl
  |cons p l ih=>rw[List.map_cons,sumP,ih,sumBy,cf_val hl]
 exact h _
theorem pairs_len(F:List FileT):(pairsOf F).length≤F.length:=by
 have:=pathsOf_len F
 simp only[pairsOf,List.length_map];omega
theorem p_fragments(F:List FileT)(v:Value)(B:Nat)(w:World)(hv:RowV w (· < B) v 3 (fileCells F))(hB:B≤w.heap.size)(hl:F.length≤1100)(hsz:sizesOK F):
 Calls Tryz.prog 10 #[v] w fun e w'=>e= .returned (.int .i64 (fragsOf F))∧Below w.heap.size w w':=by
 have HLL:=hQ (show (pairsOf F).length≤1100 from Nat.le_trans (pairs_len F) hl)
 have HS:=hQ (sumP_pairs hl)
 obtain ⟨va,vc,rfl, -⟩:=file_cells hv
 have HV:=hQ (show (Value.slice va F.length vc)= .slice va F.length vc from rfl)
 clear HV
 refine (callsIn_wide (n:=3)).1 ?_
 refine callsIn_of_wp_marks Tryz.func10 rfl trivial ?_ rfl
 simp only[Tryz.ntmps10,List.size_toArray,List.length_cons,List.length_nil,Nat.reduceAdd,Nat.reduceSub,Array.replicate_succ,Array.replicate_zero,List.push_toArray,List.append_toArray,List.nil_append,List.cons_append]
 gi_wp2_with (first
  |(refine ⟨trivial,?_⟩;gi_at_call 20;refine (callsIn_wide.2 (p_paths va F.length vc _)).mono ?_;rintro e w' ⟨rfl,rfl⟩)
  |fail)
 have bO:Boxed (w.alloc (.cells #[.int .i64 0] 3)) w.heap.size 3 (.int .i64 0):=Boxed.new w 3 (.int .i64 0)
 have hB3:Below w.heap.size w ((w.alloc (.cells #[.int .i64 0] 3)).alloc (.cells #[.slice va F.length vc] 22)):=((Below.refl _ w).alloc (Nat.le_refl _) _).alloc (by simp) _
 have bN:Boxed ((w.alloc (.cells #[.int .i64 0] 3)).alloc (.cells #[.slice va F.length vc] 22)) (w.heap.size+1) 22 (.slice va F.length vc):=by
  have:=Boxed.new (w.alloc (.cells #[.int .i64 0] 3)) 22 (.slice va F.length vc)
  rwa [World.size_alloc] at this
 have bO3:=bO.alloc (.cells #[.slice va F.length vc] 22)
 have hsz3:((w.alloc (.cells #[.int .i64 0] 3)).alloc (.cells #[.slice va F.length vc] 22)).heap.size=w.heap.size+2:=by simp
 have hob:outBlk w.heap.size ((w.alloc (.cells #[.int .i64 0] 3)).alloc (.cells #[.slice va F.length vc] 22))=none:=by unfold outBlk;rw[bO3.cell];rfl
 generalize ((w.alloc (.cells #[.int .i64 0] 3)).alloc (.cells #[.slice va F.length vc] 22))=w3 at*
 refine wpIn_rangeFunc_ownG (F:=Fence.wide) (n:=3) rfl (by omega) (gf:=45) (lb:= #[.pointer (some ⟨w.heap.size+1,0,none⟩)]) rfl trivial (enters_of Tryz.func45 (by kernel_rfl) rfl)
  (encs:=pairC) (Kp:=KO w.heap.size) (S:=fun ys=>ys=pairsOf F) (Sp:=fun pre=>pre <+: pairsOf F) (N:=(pairsOf F).length) (w0:=w3)
  (fun l J Jx W hW hJ _ hY h0=>p_paths1 _ l F _ B (w.heap.size+1) w.heap.size W ((hv.below (hB3.mono hB)).frame (fun b hb=>⟨hb,fun o=>hW.cell (show b<w3.heap.size by omega)⟩)) hB (Nat.lt_of_lt_of_le (by omega) hW.size)
    (by rw[outBlk_same (hW.block w.heap.size (by omega))];exact hob) hl hsz (by rw[hW.cell (show w.heap.size+1<w3.heap.size by omega)];exact bN.cell) J Jx hJ hY h0)
  (fun h k=>h.trans k) (fun W l o o' hl ho hc hwk=>KO.putObj (w:=w3) (by omega) W l o o' hl ho hc hwk) (Below.refl _ _) (fun _=>rfl)
  (fun pre W=>Boxed W w.heap.size 3 (.int .i64 (sumP pre))∧Below w.heap.size w W)
  (fun _ _ _=>False)
  (OwnFrom.and (Own.from (boxed_own w.heap.size 3 (fun pre:List PairT=>Value.int .i64 (sumP pre))) _) (ownFrom_below (Nat.le_refl _) (by omega)))
  (fun _ _ _ _ _ hs _ _=>hs)
  ⟨bO3,hB3⟩
  (fun x=> {tmps:= #[.slice va F.length vc,undef, .int .i64 0, .pointer (some ⟨w.heap.size,0,none⟩),undef, .int .i64 ((x.2.val:Nat):Int), .slice va F.length vc, .func (.func 45) #[] #[.pointer (some ⟨w.heap.size+1,0,none⟩)], .string x.1, .int .i64 ((x.2.val:Nat):Int),undef,undef,undef,undef,undef],defers:=[]}) ?assign ?body ?done ?stop
 case assign=>
  intro l x W K hK
  simp only[pairC]
  gi_wp2
  exact hK
 case body=>
  rintro l pre x W ⟨hbx,hB⟩ hlt
  have hc:=hbx.cell
  have hf:=hbx.frozen
  have hpl:pre.length<1100:=Nat.lt_of_lt_of_le hlt HLL.out
  obtain ⟨s1,s2⟩:=sumP_bound pre
  have HSN:=hQ (sumP_snoc pre x)
  have x1:=x.2.isLt
  generalize (x.2.val:Nat)=xn at*
  have hko: ∀u,KO w.heap.size W (W.setCell ⟨w.heap.size,0,none⟩ (.int .i64 u)):=fun u=>KO.counted hbx rfl _ rfl
  have hst: ∀u,Boxed (W.setCell ⟨w.heap.size,0,none⟩ (.int .i64 u)) w.heap.size 3 (.int .i64 u):=fun u=>hbx.set _
  have HKO:=hQ hko
  have HST:=hQ hst
  have HB:=hQ hB
  clear hko hst hB hbx
  generalize sumP pre=sm at*
  gi_wp2
  exact ⟨(KeepsOthers.setCell _ _ _).from _,HKO.out _,by rw[HSN.out];exact HST.out _,HB.out.trans ((Below.refl w.heap.size W).setCell (p:=⟨w.heap.size,0,none⟩) (Nat.le_refl _) _)⟩
 case done=>
  rintro D ys W hD rfl ⟨hbx,hB⟩ hK
  have hc:=hbx.cell
  rw[HS.out] at hc
  gi_wp2
  refine ⟨by simp, .inl ⟨_,_,rfl,run_takeDeferred hK,?_⟩⟩
  exact ⟨_,results_tmp rfl _ _ _,rfl,hB.trans (belowK_b (w:=w) (Nat.le_refl _) W D _ _ (by omega) hK rfl rfl)⟩
 case stop=>
  rintro D c pre W _ _ h _
  exact h.elim
end Go.Proofs.YtihcgekdnljahaaGreatDoor
end
section
namespace Go.Proofs.YtihcgekdnljahaaGreatDoor
open Go.RowKit Go.Lib
set_option maxRecDepth 1000000
set_option maxHeartbeats 6400000
attribute [local go_sem] Oper.semAt_some
def manyP(l:List PairT):List ByteArray:=(l.filter fun x=>decide (1<x.2.val)).map fun x=>x.1
theorem manyP_snoc(l:List PairT)(x:PairT):manyP (l++[x])=manyP l++if 1<x.2.val then [x.1] else []:=by
 unfold manyP
 rw[List.filter_append,List.map_append]
 by_cases h:1<x.2.val
 ·rw[if_pos h];simp[h]
 ·rw[if_neg h];simp[h]
theorem manyP_len(l:List PairT):(manyP l).length≤l.length:=by
 unfold manyP
 rw[List.length_map]
 exact List.length_filter_le _ _
theorem manyP_pairs{F:List FileT}(hl:F.length≤1100):manyP (pairsOf F)=fragOf F:=by
 unfold manyP pairsOf fragOf
 have h: ∀l:List ByteArray,(((l.map fun p=>(p,cf F p)).filter fun x:PairT=>decide (1<x.2.val)).map fun x=>x.1)=l.filter fun p=>decide (1<cntOf F p):=fun l=>by
  induction l with
  |nil=>rfl
  |cons p l ih=>
   rw[List.map_cons]
   by_cases hp:1<cntOf F p
   ·rw[List.filter_cons_of_pos (by simpa[cf_val hl] using hp),List.filter_cons_of_pos (by simpa using hp),List.map_cons,ih]
   ·rw[List.filter_cons_of_neg (by simpa[cf_val hl] using hp),List.filter_cons_of_neg (by simpa using hp),ih]
 exact h _
theorem p_fragmented(F:List FileT)(v:Value)(B:Nat)(w:World)(hv:RowV w (· < B) v 3 (fileCells F))(hB:B≤w.heap.size)(hl:F.length≤1100)(hsz:sizesOK F):
 Calls Tryz.prog 8 #[v] w fun e w'=> ∃o,e= .returned o∧w'.ownsRow w.heap.size 9 1 o (fragOf F).length (strsV (fragOf F))∧Below w.heap.size w w':=by
 obtain ⟨i0,hi,hz0,hz1,hz2⟩:=info_parts info_str
 have HLL:=hQ (show (pairsOf F).length≤1100 from Nat.le_trans (pairs_len F) hl)
 have HS:=hQ (manyP_pairs hl)
 obtain ⟨va,vc,rfl, -⟩:=file_cells hv
 have HV:=hQ (show (Value.slice va F.length vc)= .slice va F.length vc from rfl)
 clear HV
 refine (callsIn_wide (n:=3)).1 ?_
 refine callsIn_of_wp_marks Tryz.func8 rfl trivial ?_ rfl
 simp only[Tryz.ntmps8,List.size_toArray,List.length_cons,List.length_nil,Nat.reduceAdd,Nat.reduceSub,Array.replicate_succ,Array.replicate_zero,List.push_toArray,List.append_toArray,List.nil_append,List.cons_append]
 gi_wp2_with (first
  |(refine ⟨trivial,?_⟩;gi_at_call 20;refine (callsIn_wide.2 (p_paths va F.length vc _)).mono ?_;rintro e w' ⟨rfl,rfl⟩)
  |fail)
 have bO:Boxed (w.alloc (.cells #[.slice none 0 0] 28)) w.heap.size 28 (.slice none 0 0):=Boxed.new w 28 (.slice none 0 0)
 have hB3:Below w.heap.size w ((w.alloc (.cells #[.slice none 0 0] 28)).alloc (.cells #[.slice va F.length vc] 22)):=((Below.refl _ w).alloc (Nat.le_refl _) _).alloc (by simp) _
 have bN:Boxed ((w.alloc (.cells #[.slice none 0 0] 28)).alloc (.cells #[.slice va F.length vc] 22)) (w.heap.size+1) 22 (.slice va F.length vc):=by
  have:=Boxed.new (w.alloc (.cells #[.slice none 0 0] 28)) 22 (.slice va F.length vc)
  rwa [World.size_alloc] at this
 have bO3:=bO.alloc (.cells #[.slice va F.length vc] 22)
 have hsz3:((w.alloc (.cells #[.slice none 0 0] 28)).alloc (.cells #[.slice va F.length vc] 22)).heap.size=w.heap.size+2:=by simp
 have hob:outBlk w.heap.size ((w.alloc (.cells #[.slice none 0 0] 28)).alloc (.cells #[.slice va F.length vc] 22))=none:=by unfold outBlk;rw[bO3.cell];rfl
 generalize ((w.alloc (.cells #[.slice none 0 0] 28)).alloc (.cells #[.slice va F.length vc] 22))=w3 at*
 refine wpIn_rangeFunc_ownG (F:=Fence.wide) (n:=3) rfl (by omega) (gf:=45) (lb:= #[.pointer (some ⟨w.heap.size+1,0,none⟩)]) rfl trivial (enters_of Tryz.func45 (by kernel_rfl) rfl)
  (encs:=pairC) (Kp:=KO w.heap.size) (S:=fun ys=>ys=pairsOf F) (Sp:=fun pre=>pre <+: pairsOf F) (N:=(pairsOf F).length) (w0:=w3)
  (fun l J Jx W hW hJ _ hY h0=>p_paths1 _ l F _ B (w.heap.size+1) w.heap.size W ((hv.below (hB3.mono hB)).frame (fun b hb=>⟨hb,fun o=>hW.cell (show b<w3.heap.size by omega)⟩)) hB (Nat.lt_of_lt_of_le (by omega) hW.size)
    (by rw[outBlk_same (hW.block w.heap.size (by omega))];exact hob) hl hsz (by rw[hW.cell (show w.heap.size+1<w3.heap.size by omega)];exact bN.cell) J Jx hJ hY h0)
  (fun h k=>h.trans k) (fun W l o o' hl ho hc hwk=>KO.putObj (w:=w3) (by omega) W l o o' hl ho hc hwk) (Below.refl _ _) (fun _=>rfl)
  (fun pre W=>(∃u,Boxed W w.heap.size 28 u∧W.ownsRow w.heap.size 9 1 u (manyP pre).length (strsV (manyP pre))∧True)∧Below w.heap.size w W)
  (fun _ _ _=>False)
  (OwnFrom.and (Own.from (holdsRow_own w.heap.size w.heap.size 28 9 1 (fun pre:List PairT=>(manyP pre).length) (fun pre=>strsV (manyP pre)) (fun _ _=>True)) _) (ownFrom_below (Nat.le_refl _) (by omega)))
  (fun _ _ _ _ _ hs _ _=>hs)
  ⟨⟨_,bO3,World.ownsRow_nil _ _ _ _,trivial⟩,hB3⟩
  (fun x=> {tmps:= #[.slice va F.length vc,undef, .slice none 0 0, .pointer (some ⟨w.heap.size,0,none⟩), .string x.1, .int .i64 ((x.2.val:Nat):Int), .slice va F.length vc, .func (.func 45) #[] #[.pointer (some ⟨w.heap.size+1,0,none⟩)], .string x.1, .int .i64 ((x.2.val:Nat):Int),undef,undef,undef,undef,undef,undef,undef],defers:=[]}) ?assign ?body ?done ?stop
 case assign=>
  intro l x W K hK
  simp only[pairC]
  gi_wp2
  exact hK
 case body=>
  rintro l pre x W ⟨⟨u,hv,hrow,_⟩,hB⟩ hlt
  have hc:=hv.cell
  have hpl:pre.length<1100:=Nat.lt_of_lt_of_le hlt HLL.out
  have hml:=manyP_len pre
  have HSN:=hQ (manyP_snoc pre x)
  have x1:=x.2.isLt
  generalize (x.2.val:Nat)=xn at*
  generalize manyP pre=M at*
  by_cases hx:1<xn
  ·have hx':(1:Int)<(xn:Int):=by omega
   have HSN2:=hQ (show manyP (pre++[x])=M++[x.1] by rw[HSN.out,if_pos hx])
   clear HSN
   gi_wp2_with (first
    |(gi_at_builtin;refine wpListIn_append_own_at _ rfl _ _ 28 rfl w.heap.size 9 i0 (.string ⟨#[]⟩) 1 16 Tryz.underlying28 hi hz0 hz1 hz2 rfl (by decide) _ _ _ rfl (hrow.alloc _) ⟨W.heap.size,0,none⟩ 1 1 [.string x.1] rfl rfl (cell_one_new _ _ _) (by simp[Value.oneCell']) (by unfold maxLen;omega) (by omega) (by have:=hB.size;simp;omega) ?_
      intro v' w1 hown' hgrow _ hblk
      obtain ⟨g',cap',rfl⟩:=ownsRow_succ hown'
      obtain ⟨hv1,hv2,hr2,hk2,hb2⟩:=hv.appended (by decide) hrow hB.size (Nat.le_refl _) hown' hgrow
      have hko:=KO.appended hv (by decide) hrow hgrow hblk (fun g hg=>(hown'.lt g hg).2)
      have hc1:=hv1.cell
      have hf1:=hv1.frozen)
    |fail)
   exact ⟨hk2.from _,hko,⟨_,hv2,by rw[HSN2.out,strsV_snoc,List.length_append];exact hr2,trivial⟩,hB.trans hb2⟩
  ·have hx':(xn:Int)≤1:=by omega
   have HSN2:=hQ (show manyP (pre++[x])=M by rw[HSN.out,if_neg hx,List.append_nil])
   have HV:=hQ hv
   have HR:=hQ hrow
   have HB:=hQ hB
   clear HSN hv hrow hB
   gi_wp2
   exact ⟨(KeepsOthers.refl W).from _,⟨Nat.le_refl _,fun _ _ h _ _ _=>h, .inl rfl⟩,⟨_,HV.out,by rw[HSN2.out];exact HR.out,trivial⟩,HB.out⟩
 case done=>
  rintro D ys W hD rfl ⟨⟨u,hv,hrow,_⟩,hB⟩ hK
  have hc:=hv.cell
  rw[HS.out] at hrow
  gi_wp2
  refine ⟨by simp, .inl ⟨_,_,rfl,run_takeDeferred hK,?_⟩⟩
  exact ⟨_,results_tmp rfl _ _ _,u,rfl,ownsRow_putObj hrow _ hK rfl,hB.trans (belowK_b (w:=w) (Nat.le_refl _) W D _ _ (by omega) hK rfl rfl)⟩
 case stop=>
  rintro D c pre W _ _ h _
  exact h.elim
end Go.Proofs.YtihcgekdnljahaaGreatDoor
end
