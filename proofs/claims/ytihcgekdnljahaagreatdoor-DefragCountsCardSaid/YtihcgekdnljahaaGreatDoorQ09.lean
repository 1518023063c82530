/- Law 54, DefragCounts: a part of the proof. -/
import Derived.Test.YtihcgekdnljahaaGreatDoorQ08
import Derived.Deep.RegionHeld3
import Derived.BigQuiet
import Derived.Deep.QuietTactic
import Derived.Deep.Cut
import Derived.Deep.DeepCutAuto
section
namespace Go.Proofs.YtihcgekdnljahaaGreatDoor
open Go.RowKit Go.Lib
set_option maxRecDepth 1000000
set_option maxHeartbeats 6400000
theorem info_file:(Tryz.prog.info? 33).map (fun i=>(i.zero,i.size,i.bytes))=some (some (.agg #[.string ⟨#[]⟩, .int .i64 0, .int .i64 0]),3,32):=by kernel_rfl
section
variable {P:Program}
theorem step_append_at{ops:Array Oper}{o:Oper}{a:Act}{w:World}{K:Act→World→Prop}{Q:Exit→Act→World→Prop}{E:Prop}(hgd:o.guard=none)(s x:Operand)(t:TypeId)
 (ho:o.op= .call {callee:= .builtin .append,args:= #[s,x],argTypes:= #[t,t]})
 (base:Nat) (e:TypeId) (i:TypeInfo) (z:Value) (size bytes:Nat) (ht:P.underlying t=some (.slice e)) (hi:P.info? e=some i) (hz:i.zero=some z)
 (hsize:i.size=size) (hby:i.bytes=bytes) (hzs:z.cells.size=size) (hsz:0<size)
 (v:Value) (n:Nat) (xs:List Value) (hs:a.eval s=v) (hown:w.ownsRow base e size v n xs)
 (ad:Addr) (m c:Nat) (news:List Value) (hx:a.eval x= .slice (some ad) m c) (hl:news.length=m*size) (hnews: ∀j u,news[j]? =some u→w.cell? (ad.add j)=some u) (h1: ∀u∈news,u.oneCell'=true)
 (h63:n+m≤maxLen) (hbytes:(n+m)*bytes≤140737488355328) (hbase:base≤w.heap.size)
 (h: ∀v' w',w'.ownsRow base e size v' (n+m) (xs++news)→w.grownBy w' v.ownBlock→(v'.ownBlock=v.ownBlock∨v'.ownBlock=some w.heap.size)→K (a.put o.dst v') w'):
 if Region.wanted o (yielded ops a.tmps)=true then Oper.wp P o a w K Q else E:=by
 have hw:Region.wanted o (yielded ops a.tmps)=true:=by simp[Region.wanted,hgd]
 rw[if_pos hw]
 obtain ⟨v',w',hr,h2,h3,h4,h5⟩:=run_append_own_at (P:=P) w base t o.type e i z size bytes ht hi hz hsize hby hzs hsz v n xs hown ad m c news hl hnews h1 h63 hbytes hbase
 unfold Oper.wp execOp
 simp only[ho,resolve,invoke,builtin,Sem.run_bind,Sem.run_pure,Result.andThen_ok,List.map_toArray,List.map_cons,List.map_nil,hs,hx,hr]
 exact h v' w' h2 h3 h5
end
section
variable {w:World} {ops:Array Oper} {o:Oper} {a:Act} {K:Act→World→Prop} {Q:Exit→Act→World→Prop} {E:Prop}
end
structure Groups (w:World) (base:Nat) (m:ByteArray→Value) (F:List FileT):Prop where
 own: ∀p,w.ownsRow base 33 3 (m p) (ofPath F p).length ((ofPath F p).flatMap fileC)
 apart: ∀p q,p≠q→(m p).ownBlock=none∨(m p).ownBlock≠(m q).ownBlock
theorem Groups.start(w:World)(base:Nat):Groups w base (fun _=> .slice none 0 0) [] where
 own:=fun _=>World.ownsRow_nil ..
 apart:=fun _ _ _=> .inl rfl
theorem Groups.below{w w':World}{base:Nat}{m:ByteArray→Value}{F:List FileT}(h:Groups w base m F)(hb:Below w.heap.size w w'):Groups w' base m F where
 own:=fun p=>own_below' (h.own p) hb
 apart:=h.apart
theorem Groups.other{w w':World}{base b:Nat}{m:ByteArray→Value}{F:List FileT}(h:Groups w base m F)(hg:w.grownBy w' (some b))(hb:b<base):Groups w' base m F where
 own:=fun p=>own_other (h.own p) hg hb
 apart:=h.apart
theorem ofPath_snoc_self(F:List FileT)(f:FileT):ofPath (F++[f]) f.1=ofPath F f.1++[f]:=by unfold ofPath;rw[List.filter_append];simp
theorem ofPath_snoc_other(F:List FileT)(f:FileT){p:ByteArray}(h:p≠f.1):ofPath (F++[f]) p=ofPath F p:=by unfold ofPath;rw[List.filter_append];simp[Ne.symm h]
theorem Groups.step{w w':World}{base:Nat}{m:ByteArray→Value}{F:List FileT}(h:Groups w base m F)(f:FileT)(v':Value)(hown:w'.ownsRow base 33 3 v' ((ofPath F f.1).length+1) ((ofPath F f.1).flatMap fileC++fileC f))
 (hg:w.grownBy w' (m f.1).ownBlock) (hb:v'.ownBlock=(m f.1).ownBlock∨v'.ownBlock=some w.heap.size):Groups w' base (upd m f.1 v') (F++[f]):=by
 have hne: ∀q,q≠f.1→(m q).ownBlock=none∨(m q).ownBlock≠v'.ownBlock:=fun q hq=>by
  rcases hb with e|e
  ·rw[e];exact h.apart q f.1 hq
  ·cases hm:(m q).ownBlock with
   |none=>exact .inl rfl
   |some g=>exact .inr (fun e'=>by rw[e] at e';injection e' with e';have:=((h.own q).lt g hm).2;omega)
 refine ⟨fun p=>?_,fun p q hpq=>?_⟩
 ·unfold upd
  by_cases hp:p=f.1
  ·subst hp
   rw[if_pos rfl,ofPath_snoc_self,List.length_append,List.flatMap_append]
   simpa using hown
  ·rw[if_neg hp,ofPath_snoc_other F f hp]
   exact (h.own p).kept hg (h.apart p f.1 hp)
 ·unfold upd
  by_cases hp:p=f.1
  ·subst hp
   rw[if_pos rfl,if_neg (Ne.symm hpq)]
   rcases hne q (Ne.symm hpq) with e|e
   ·rw[e]
    cases hv:v'.ownBlock with
    |none=>exact .inl rfl
    |some g=>exact .inr (by simp)
   ·exact .inr (Ne.symm e)
  ·rw[if_neg hp]
   by_cases hq:q=f.1
   ·subst hq;rw[if_pos rfl];exact hne p hp
   ·rw[if_neg hq];exact h.apart p q hpq
theorem hasF_ofPath{F:List FileT}{p:ByteArray}(h:hasF F p=true):0<(ofPath F p).length:=by
 unfold hasF at h
 rw[List.any_eq_true] at h
 obtain ⟨f,hf,he⟩:=h
 exact List.length_pos_of_mem (List.mem_filter.2 ⟨hf,he⟩)
theorem ofPath_len(F:List FileT)(p:ByteArray):(ofPath F p).length≤F.length:=List.length_filter_le _ _
theorem flat_cell(l:List FileT): ∀(k j:Nat) (h:k<l.length) (x:Value),(fileC l[k])[j]? =some x→(l.flatMap fileC)[k*3+j]? =some x:=by
 induction l with
 |nil=>intro k j h;simp at h
 |cons f l ih=>
  intro k j h x hx
  rw[List.flatMap_cons]
  cases k with
  |zero=>
   have:j<(fileC f).length:=(List.getElem?_eq_some_iff.1 hx).1
   rw[Nat.zero_mul,Nat.zero_add,List.getElem?_append_left this]
   exact hx
  |succ k=>
   have h3:(fileC f).length=3:=rfl
   rw[List.getElem?_append_right (by rw[h3];omega),h3,show (k+1)*3+j-3=k*3+j by omega]
   exact ih k j (by simpa using h) x (by simpa using hx)
theorem row_cell{w:World}{base g cap n:Nat}{l:List FileT}(h:w.ownsRow base 33 3 (.slice (some ⟨g,0,none⟩) n cap) n (l.flatMap fileC))(hn:n=l.length){k j:Nat}(hk:k<l.length){x:Value}(hx:(fileC l[k])[j]? =some x):w.cell? ⟨g,0+k*3+j,none⟩=some x:=by
 have hj:j<3:=(List.getElem?_eq_some_iff.1 hx).1
 rw[Nat.zero_add,h.cellAt _ (by omega)]
 exact flat_cell l k j hk x hx
theorem goodC_fold{c:Int × Int}{n:Int}(hc:goodC c n): ∀l:List FileT,l.all fileOk=true→goodC (l.foldl costStep c) (n+4096*l.length):=fun l=>by
 refine snoc_ind (motive:=fun l=>l.all fileOk=true→goodC (l.foldl costStep c) (n+4096*l.length)) (fun _=>by simpa using hc) (fun l f ih h=>?_) l
 rw[List.all_append,Bool.and_eq_true] at h
 rw[List.foldl_append,List.length_append]
 exact goodC_mono (goodC_step (ih h.1) (by simpa using h.2)) (by simp;omega)
end Go.Proofs.YtihcgekdnljahaaGreatDoor
end
section
namespace Go.Proofs.YtihcgekdnljahaaGreatDoor
open Go.RowKit Go.Lib
set_option maxRecDepth 1000000
set_option maxHeartbeats 6400000
structure Gath (w:World) (F:List FileT) (k:Nat) (m:ByteArray→Value) (wr:World):Prop where
 map:MapV wr w.heap.size k (.slice none 0 0) m
 rows:Groups wr (w.heap.size+1) m (F.take k)
 ok:(F.take k).all fileOk=true
 below:Below w.heap.size w wr
 size:w.heap.size+1≤wr.heap.size
theorem Gath.same{w:World}{F:List FileT}{k:Nat}{m:ByteArray→Value}{wr w':World}(h:Gath w F k m wr)(hb:Below wr.heap.size wr w'):Gath w F k m w' where
 map:=h.map.of_block (hb.block _ h.map.lt)
 rows:=h.rows.below hb
 ok:=h.ok
 below:=h.below.trans (hb.mono h.below.size)
 size:=Nat.le_trans h.size hb.size
theorem Gath.next{w:World}{F:List FileT}{k:Nat}{m:ByteArray→Value}{w2 w3 w4:World}(h:Gath w F k m w2)(hk:k<F.length)(hf:fileOk F[k]=true)(v':Value)
 (hown:w3.ownsRow (w.heap.size+1) 33 3 v' ((ofPath (F.take k) F[k].1).length+1) ((ofPath (F.take k) F[k].1).flatMap fileC++fileC F[k]))
 (hg:w2.grownBy w3 (m F[k].1).ownBlock) (hb:v'.ownBlock=(m F[k].1).ownBlock∨v'.ownBlock=some w2.heap.size)
 (hm:MapV w4 w.heap.size (k+1) (.slice none 0 0) (upd m F[k].1 v')) (hg4:w3.grownBy w4 (some w.heap.size)):Gath w F (k+1) (upd m F[k].1 v') w4 where
 map:=hm
 rows:=by
  have h1:=h.rows.step F[k] v' hown hg hb
  rw[←take_snocF F k hk] at h1
  exact h1.other hg4 (Nat.lt_succ_self _)
 ok:=by rw[all_take hk,h.ok,hf];rfl
 below:=(h.below.grown hg h.below.size (fun j hj=>by have:=((h.rows.own F[k].1).lt j hj).1;omega)).grown hg4 (Nat.le_trans h.below.size hg.size) (fun j e=>by injection e with e;omega)
 size:=Nat.le_trans (Nat.le_trans h.size hg.size) hg4.size
theorem not_ok_parts{d:FileT}(h:fileOk d=false):(decide (d.2.1<0)||decide (d.2.2<0)||decide (4096<d.2.1)||decide (4096-d.2.1<blocksOf d.2.2))=true:=by
 unfold fileOk at h
 by_cases h1:d.2.1<0
 ·simp[h1]
 ·by_cases h2:d.2.2<0
  ·simp[h2]
  ·by_cases h3:4096<d.2.1
   ·simp[h3]
   ·have e1:decide (0≤d.2.1)=true:=decide_eq_true (by omega)
    have e2:decide (0≤d.2.2)=true:=decide_eq_true (by omega)
    have e3:decide (d.2.1≤4096)=true:=decide_eq_true (by omega)
    rw[e1,e2,e3] at h
    have h4: ¬blocksOf d.2.2≤4096-d.2.1:=by simpa using h
    have:4096-d.2.1<blocksOf d.2.2:=by omega
    simp[this]
theorem p_fcost(F:List FileT)(L:List ByteArray)(v u:Value)(B:Nat)(w:World)(hv:RowV w (· < B) v 3 (fileCells F))(hu:RowV w (· < B) u 1 (strCells L))(hB:B≤w.heap.size)(hl:F.length≤1100)(hL:L.length≤F.length)(hin: ∀p∈L,hasF F p=true)(hi:intsOK F)(hsz:sizesOK F):
 Calls Tryz.prog 17 #[v,u] w fun e w'=>e= .returned (.tuple #[.int .i64 (costRL F L).1, .int .i64 (costRL F L).2])∧Below w.heap.size w w':=by
 obtain ⟨i0,hi0,hz0,hz1,hz2⟩:=info_parts info_file
 obtain ⟨a,c,rfl,hrow⟩:=file_cells hv
 obtain ⟨ua,uc,rfl,hrowu⟩:=str_rows hu
 have HROW:=hQ hrow
 have HROU:=hQ hrowu
 have HIN:=hQ hin
 have HI:=hQ hi
 have HSZ:=hQ hsz
 clear hrow hrowu hv hu hin hi hsz
 by_cases hbig:1024<F.length
 ·have hb1:(1024:Int)<F.length:=by omega
  have HC:=hQ (show costRL F L=(0,7) from if_pos hbig)
  clear hbig
  go_enter Tryz.func17,Tryz.ntmps17
  go_wp2
  go_ret2
  exact ⟨by rw[HC.out];rfl,Below.refl _ _⟩
 ·have hb1:(F.length:Int)≤1024:=by omega
  have hb2:(L.length:Int)≤1024:=by omega
  have HC:=hQ (show costRL F L=if F.all fileOk then ((costOf F L).1,0) else (0,1) from if_neg hbig)
  clear hbig
  have hmade:=MapV_made w (.slice none 0 0)
  have hb1':=below_alloc1 w (.map #[] 0)
  have hsz1:(w.alloc (.map #[] 0)).heap.size=w.heap.size+1:=by simp
  have hmm:= @run_makeMap Tryz.prog
  go_enter Tryz.func17,Tryz.ntmps17
  go_wp2
  generalize w.alloc (.map #[] 0)=w1 at*
  go_loopw [26] (fun i wr=> ∃(k:Nat) (m:ByteArray→Value),i= .int .i64 k∧k≤F.length∧Gath w F k m wr) (fun i _=>F.length-(RowKit.intOf i).toNat)
  case atStart=>exact ⟨0,_,rfl,Nat.zero_le _,hmade,Groups.start _ _,rfl,hb1',by omega⟩
  case round=>
   clear hmade hb1' hsz1 hmm
   obtain ⟨k,m,rfl,hk,hga⟩:=hrel
   by_cases hlt:k<F.length
   ·have hi':(k:Int)<F.length:=by omega
    obtain ⟨b,off,rfl,hbB,hcw⟩:=HROW.out k hlt
    have HCELL:=hQ (fun j x hx=>(hga.below.cell (p:=⟨b,off+k*3+j,none⟩) (show b<w.heap.size by omega)).trans (hcw j x hx))
    clear hcw
    have HIF:=hQ (HI.out _ (List.getElem_mem hlt))
    have HP:=hQ (HSZ.out _ (List.getElem_mem hlt))
    have HM:=hQ (List.getElem_mem hlt)
    have HNX:=hQ (fun w2 w3 w4 (h:Gath w F k m w2) hf v' hown hg hb hm hg4=>Gath.next (w2:=w2) (w3:=w3) (w4:=w4) h hlt hf v' hown hg hb hm hg4)
    have hol:=ofPath_len (F.take k) F[k].1
    rw[List.length_take] at hol
    have HOWN:=hQ (fun (W:World) (h:Gath w F k m W)=>h.rows.own F[k].1)
    have HNO:=hQ (not_ok_parts (d:=F[k]))
    have HOK:=hQ (fileOk_parts (f:=F[k]))
    have HBL:=hQ (fun W:World=>p_blocks F[k].2.2 HIF.out.2 W)
    have HBN:=hQ (show ¬(fileOk F[k]=true)→F.all fileOk=false from fun hv=>by rw[Bool.eq_false_iff];intro h;rw[List.all_eq_true] at h;exact hv (h _ HM.out))
    have hbb1:=blocksOf_nn F[k].2.2
    have hbb2:=blocksOf_le F[k].2.2 HIF.out.2.2
    generalize F[k]=d at*
    clear HM
    obtain ⟨p,st,ln⟩:=d
    obtain ⟨⟨i1,i2⟩,i3,i4⟩:=HIF.out
    simp only[] at i1 i2 i3 i4
    replace HCELL:=hQ (show ∀j x,([.string p, .int .i64 st, .int .i64 ln]:List Value)[j]? =some x→wr.cell? ⟨b,off+k*3+j,none⟩=some x from HCELL.out)
    replace HP:=hQ (show p.size≤maxLen from HP.out)
    replace HBL:=hQ (show ∀W:World,Calls _ _ #[.int .i64 ln] W _ from HBL.out)
    replace HOWN:=hQ (show ∀W:World,Gath w F k m W→W.ownsRow (w.heap.size+1) 33 3 (m p) (ofPath (F.take k) p).length ((ofPath (F.take k) p).flatMap fileC) from HOWN.out)
    generalize hmp:m p=mp at*
    go_upto_region 7 with (first
     |(refine wpList_load_at rfl _ _ rfl b (off+k*3) [.string p, .int .i64 st, .int .i64 ln] _ rfl HCELL.out Tryz.underlying33 rfl file_size ?_)
     |(refine wpList_store_row rfl _ _ _ rfl wr.heap.size _ #[.string ⟨#[]⟩, .int .i64 0, .int .i64 0] [.string p, .int .i64 st, .int .i64 ln].toArray rfl rfl (heap_alloc_last _ _) 3 file_size rfl rfl rfl ?_)
     |go_in)
    have hbox2:Box 33 wr.heap.size [.string p, .int .i64 st, .int .i64 ln] (wr.alloc (.cells #[.string p, .int .i64 st, .int .i64 ln] 33)):=heap_alloc_last _ _
    have HSZ0:=hQ hga.size
    have HGA:=hQ (hga.same (below_alloc1 wr (.cells #[.string p, .int .i64 st, .int .i64 ln] 33)))
    have HGB:=hQ (show mp.ownBlock≠some wr.heap.size from fun e=>by have:=((HOWN.out _ hga).lt _ e).2;omega)
    generalize wr.alloc (.cells #[.string p, .int .i64 st, .int .i64 ln] 33)=w2 at*
    have c0:=hbox2.cell 0 _ rfl
    have c1:=hbox2.cell 1 _ rfl
    have c2:=hbox2.cell 2 _ rfl
    have HBX:=hQ hbox2
    clear hga HCELL hbox2
    have hgw:wr.heap.size≠w.heap.size:=by have:=HSZ0.out;omega
    generalize wr.heap.size=g at*
    simp only[] at hbb1 hbb2
    generalize hbl:blocksOf ln=bl at*
    by_cases hok:fileOk (p,st,ln)=true
    ·obtain ⟨g1,g2,g3,g4⟩:=HOK.out hok
     simp only[] at g1 g2 g3 g4
     have wq:IntKind.i64.wrap (4096-st)=4096-st:=by rw[IntKind.wrap_i64];omega
     have HNX2:=hQ (fun w2 w3 w4 (h:Gath w F k m w2)=>HNX.out w2 w3 w4 h hok)
     clear HNO HOK HBN hbl HNX
     go_quiet ((go_at_call 41;first|with_reducible exact Calls.quiet_of_same (HBL.out _)))
     go_upto_region 9 with (fail)
     have HGA5:=hQ (HGA.out.same (below_drewN' (Below.refl _ _) nq))
     have HBX5:=hQ (show Box 33 g [.string p, .int .i64 st, .int .i64 ln] (w2.drewN nq) from HBX.out)
     clear HGA HBX c0 c1 c2 HBL
     generalize w2.drewN nq=w5 at*
     have c0:=HBX5.out.cell 0 _ rfl
     have c1:=HBX5.out.cell 1 _ rfl
     have c2:=HBX5.out.cell 2 _ rfl
     have ca0:=fun o=>(HBX5.out.step (below_alloc1 w5 o)).cell 0 _ rfl
     have ca1:=fun o=>(HBX5.out.step (below_alloc1 w5 o)).cell 1 _ rfl
     have ca2:=fun o=>(HBX5.out.step (below_alloc1 w5 o)).cell 2 _ rfl
     have HR5:=hQ (HOWN.out _ HGA5.out)
     have HM5:=hQ (HGA5.out.map)
     have HMA:=hQ (fun o=>(HGA5.out.map.of_block (w':=World.drew w5) rfl).alloc o)
     have HRA:=hQ (show ∀o,(World.ownsRow ((World.drew w5).alloc o) (w.heap.size+1) 33 3 mp (ofPath (F.take k) p).length ((ofPath (F.take k) p).flatMap fileC)) from fun o=>HR5.out.alloc o)
     have HSA:=hQ (show ∀o,w.heap.size+1≤((World.drew w5).alloc o).heap.size from fun o=>Nat.le_trans HGA5.out.size (below_alloc1 w5 o).size)
     have HGM:=hQ (show g≠w.heap.size from hgw)
     go_region_held3 (fun W=>W.cell? ⟨g,0,none⟩=some (.string p)∧W.cell? ⟨g,1,none⟩=some (.int .i64 st)∧W.cell? ⟨g,2,none⟩=some (.int .i64 ln))
      (first|exact ⟨c0,c1,c2⟩|exact ⟨ca0 _,ca1 _,ca2 _⟩|(with_reducible exact KS9.out)|(with_reducible exact KS8.out)|simp[c0,c1,c2])
      (first
      |(rw[(HM5.out.of_block (w':=World.drew w5) rfl).look Tryz.underlying125 (Tryz.zeroValue22 _) HP.out,hmp];simp only[Result.andThen_ok,Oper.upon])
      |(rw[((HM5.out.alloc (.cells #[.string p, .int .i64 st, .int .i64 ln] 33)).of_block (w':=(w5.alloc (.cells #[.string p, .int .i64 st, .int .i64 ln] 33)).drew) rfl).look Tryz.underlying125 (Tryz.zeroValue22 _) HP.out,hmp];simp only[Result.andThen_ok,Oper.upon])
      |(refine step_append_at rfl _ _ 22 rfl (w.heap.size+1) 33 i0 (.agg #[.string ⟨#[]⟩, .int .i64 0, .int .i64 0]) 3 32 Tryz.underlying22 hi0 hz0 hz1 hz2 rfl (by decide) mp (ofPath (F.take k) p).length ((ofPath (F.take k) p).flatMap fileC) rfl (HRA.out _) ⟨w5.heap.size,0,none⟩ 1 1 [.string p, .int .i64 st, .int .i64 ln] rfl rfl (World.news_of_block (fr:=(0,0)) (heap_alloc_last _ _)) ?_ ?_ ?_ ?_ ?_
        ·intro x hx
         simp only[List.mem_cons,List.not_mem_nil,or_false] at hx
         rcases hx with rfl|rfl|rfl <;> rfl
        ·unfold maxLen;omega
        ·omega
        ·exact HSA.out _
        intro v8 w8 hown8 hgrow8 hblk8
        have HO8:=hQ hown8
        have HG8:=hQ hgrow8
        have HK8:=hQ hblk8
        have KS8:=hQ (show w8.cell? ⟨g,0,none⟩=some (.string p)∧w8.cell? ⟨g,1,none⟩=some (.int .i64 st)∧w8.cell? ⟨g,2,none⟩=some (.int .i64 ln) from
         have hgl:g<(w5.alloc (.cells #[.string p, .int .i64 st, .int .i64 ln] 33)).heap.size:=World.block_lt_of_cell? _ _ (ca0 _)
         ⟨(hgrow8.cell_far ⟨g,0,none⟩ hgl (fun e=>HGB.out (e.symm))).trans (ca0 _),(hgrow8.cell_far ⟨g,1,none⟩ hgl (fun e=>HGB.out (e.symm))).trans (ca1 _),(hgrow8.cell_far ⟨g,2,none⟩ hgl (fun e=>HGB.out (e.symm))).trans (ca2 _)⟩)
        have HM8:=hQ (map_other (HMA.out _) (HRA.out (.cells #[.string p, .int .i64 st, .int .i64 ln] 33)) hgrow8 (Nat.lt_succ_self _))
        clear hown8 hgrow8 hblk8)
      |(obtain ⟨w9,hrun9,hmap9,hgrow9⟩:=HM8.out.store Tryz.underlying125 (by unfold maxLen;omega) HP.out v8
        rw[hrun9]
        simp only[Result.andThen_ok,Oper.upon]
        clear hrun9
        have HM9:=hQ hmap9
        have HG9:=hQ hgrow9
        have KS9:=hQ (show w9.cell? ⟨g,0,none⟩=some (.string p)∧w9.cell? ⟨g,1,none⟩=some (.int .i64 st)∧w9.cell? ⟨g,2,none⟩=some (.int .i64 ln) from
         have hgl:g<w8.heap.size:=World.block_lt_of_cell? _ _ KS8.out.1
         ⟨(hgrow9.cell_far ⟨g,0,none⟩ hgl (fun e=>HGM.out (by injection e with e))).trans KS8.out.1,(hgrow9.cell_far ⟨g,1,none⟩ hgl (fun e=>HGM.out (by injection e with e))).trans KS8.out.2.1,(hgrow9.cell_far ⟨g,2,none⟩ hgl (fun e=>HGM.out (by injection e with e))).trans KS8.out.2.2⟩)
        clear hmap9 hgrow9))
     all_goals
      have HN:=hQ (HNX2.out _ _ _ (HGA5.out.same (below_drew (below_alloc1 w5 (.cells #[.string p, .int .i64 st, .int .i64 ln] 33)))) v8 HO8.out HG8.out HK8.out HM9.out HG9.out)
      clear HNX2 HGA5 HBX5 HR5 HM5 HMA HRA HSA HO8 HG8 HK8 HM9 HG9 KS8 KS9 HM8 c0 c1 c2 ca0 ca1 ca2
      go_wp2
      go_roundw
      case rel=>exact ⟨k+1,_,by go_num,by omega,HN.out⟩
      case measure=>simp[RowKit.intOf];omega
    ·have HF:=hQ (show costRL F L=(0,1) by rw[HC.out,HBN.out hok];rfl)
     have hno:=HNO.out (by simpa using hok)
     simp only[Bool.or_eq_true,decide_eq_true_eq] at hno
     clear HNO HOK HBN hbl HNX HC hok
     by_cases q1:st<0
     ·clear hno
      go_quiet ((go_at_call 41;first|with_reducible exact Calls.quiet_of_same (HBL.out _)))
      go_wp2
      go_ret2
      exact ⟨by rw[HF.out];rfl,below_drewN' HGA.out.below _⟩
     ·have e1:0≤st:=by omega
      by_cases q2:ln<0
      ·clear hno q1
       go_quiet ((go_at_call 41;first|with_reducible exact Calls.quiet_of_same (HBL.out _)))
       go_wp2
       go_ret2
       exact ⟨by rw[HF.out];rfl,below_drewN' HGA.out.below _⟩
      ·have e2:0≤ln:=by omega
       by_cases q3:4096<st
       ·clear hno q1 q2
        go_quiet ((go_at_call 41;first|with_reducible exact Calls.quiet_of_same (HBL.out _)))
        go_wp2
        go_ret2
        exact ⟨by rw[HF.out];rfl,below_drewN' HGA.out.below _⟩
       ·have e3:st≤4096:=by omega
        have q4:4096-st<bl:=by omega
        have wq:IntKind.i64.wrap (4096-st)=4096-st:=by rw[IntKind.wrap_i64];omega
        clear hno q1 q2 q3
        go_quiet ((go_at_call 41;first|with_reducible exact Calls.quiet_of_same (HBL.out _)))
        go_wp2
        go_ret2
        exact ⟨by rw[HF.out];rfl,below_drewN' HGA.out.below _⟩
   ·have hk':k=F.length:=by omega
    subst hk'
    have hge:(F.length:Int)≤F.length:=Int.le_refl _
    generalize wr=w7 at*
    have hrows:=hga.rows
    have hfo:=hga.ok
    rw[List.take_of_length_le (Nat.le_refl _)] at hrows hfo
    have HMAP:=hQ (show ∀W,Below w7.heap.size w7 W→MapV W w.heap.size F.length (.slice none 0 0) m from fun W h=>hga.map.of_block (h.block _ hga.map.lt))
    have HROWS:=hQ (show ∀W,Below w7.heap.size w7 W→Groups W (w.heap.size+1) m F from fun W h=>hrows.below h)
    have HFO:=hQ hfo
    have HBW:=hQ hga.below
    have HC2:=hQ (show costRL F L=((costOf F L).1,0) by rw[HC.out,if_pos hfo])
    clear HC hrows hfo hga hk hlt
    go_wp2
    clear hge
    go_loopw [9,10,65] (fun sum pos i wx=> ∃k:Nat,i= .int .i64 k∧k≤L.length∧sum= .int .i64 (costOf F (L.take k)).1∧pos= .int .i64 (costOf F (L.take k)).2∧Below w7.heap.size w7 wx) (fun _ _ i _=>L.length-(RowKit.intOf i).toNat)
    case atStart=>exact ⟨0,rfl,Nat.zero_le _,rfl,rfl,Below.refl _ _⟩
    case round=>
     obtain ⟨k,rfl,hk,rfl,rfl,hbx⟩:=hrel
     have hG:=costOf_good (F:=F) (L.take k) (by omega) HFO.out
     have hlk:(L.take k).length≤1024:=by rw[List.length_take];omega
     by_cases hlt:k<L.length
     ·have hi':(k:Int)<L.length:=by omega
      obtain ⟨ub,uoff,rfl,hubB,hcu⟩:=HROU.out k hlt
      have HT:=hQ (costOf_take F L k hlt)
      have hpos:=hasF_ofPath (HIN.out _ (List.getElem_mem hlt))
      have hcu':=((HBW.out.trans (hbx.mono HBW.out.size)).cell (p:=⟨ub,uoff+k,none⟩) (Nat.lt_of_lt_of_le hubB hB)).trans hcu
      have HPS:=hQ (show L[k].size≤maxLen from by
       obtain ⟨f,hf⟩:=List.exists_mem_of_length_pos hpos
       unfold ofPath at hf
       rw[List.mem_filter] at hf
       have:=of_decide_eq_true hf.2
       rw[←this]
       exact HSZ.out f hf.1)
      have HAO:=hQ (show (ofPath F L[k]).all fileOk=true from by
       rw[List.all_eq_true];intro f hf;unfold ofPath at hf;exact List.all_eq_true.1 HFO.out f (List.mem_filter.1 hf).1)
      have HII:=hQ (show ∀f∈ofPath F L[k],isInt f.2.1∧isInt f.2.2 from fun f hf=>by unfold ofPath at hf;exact HI.out f (List.mem_filter.1 hf).1)
      have HRW:=hQ (show ∀W,Below w7.heap.size w7 W→W.ownsRow (w.heap.size+1) 33 3 (m L[k]) (ofPath F L[k]).length ((ofPath F L[k]).flatMap fileC) from fun W h=>(HROWS.out W h).own L[k])
      have hl2:=ofPath_len F L[k]
      have HCP:=hQ (show ∀c,costP F L[k] c=(ofPath F L[k]).foldl costStep c from fun _=>rfl)
      generalize hc0:costOf F (L.take k)=c0 at*
      generalize L[k]=p at*
      generalize ofPath F p=E at*
      obtain ⟨g,cap,hmp⟩: ∃g cap,m p= .slice (some ⟨g,0,none⟩) E.length cap:=by
       rcases (HRW.out _ (Below.refl _ _)).2 with ⟨_,h0⟩|⟨g,cap,_,e,_⟩
       ·omega
       ·exact ⟨g,cap,e⟩
      rw[hmp] at HRW
      have hpos': ¬((E.length:Nat):Int)=0:=by omega
      have HBX:=hQ hbx
      clear hcu hc0 hbx
      go_wp2_with (first
       |(at_lookup;refine wpList_look_v rfl _ _ _ rfl _ Tryz.underlying125 (.slice none 0 0) (Tryz.zeroValue22 _) w.heap.size F.length m rfl (HMAP.out _ HBX.out) p rfl HPS.out ?_;rw[hmp])
       |go_in)
      go_loopw [9,10,78] (fun sum pos j wy=> ∃q:Nat,j= .int .i64 q∧q≤E.length∧sum= .int .i64 ((E.take q).foldl costStep c0).1∧pos= .int .i64 ((E.take q).foldl costStep c0).2∧Below w7.heap.size w7 wy) (fun _ _ j _=>E.length-(RowKit.intOf j).toNat)
      case atStart=>exact ⟨0,rfl,Nat.zero_le _,rfl,rfl,HBX.out⟩
      case round=>
       clear HBX
       obtain ⟨q,rfl,hq,rfl,rfl,hby⟩:=hrel
       have hG2:=goodC_fold hG (E.take q) (by rw[List.all_eq_true];intro f hf;exact List.all_eq_true.1 HAO.out f (List.mem_of_mem_take hf))
       have hlm:(((E.take q).length:Nat):Int)≤1024:=by rw[List.length_take];omega
       have hlk3:(((L.take k).length:Nat):Int)≤1024:=by omega
       by_cases hlm2:q<E.length
       ·have hj':(q:Int)<E.length:=by omega
        have HIF:=hQ (HII.out _ (List.getElem_mem hlm2))
        have HOK:=hQ (List.all_eq_true.1 HAO.out _ (List.getElem_mem hlm2))
        have HS:=hQ (show (E.take (q+1)).foldl costStep c0=costStep ((E.take q).foldl costStep c0) E[q] by rw[take_snocF E q hlm2,List.foldl_append];rfl)
        have HCELL:=hQ (fun j x (hx:(fileC E[q])[j]? =some x)=>row_cell (HRW.out _ hby) rfl hlm2 hx)
        generalize E[q]=d at*
        generalize hcm:(E.take q).foldl costStep c0=cm at*
        obtain ⟨q1,q2,q3,q4⟩:=hG2
        have q2':cm.1≤4299161600:=by omega
        obtain ⟨f1,f2,f3,f4⟩:=fileOk_parts HOK.out
        have f5:=blocksOf_nn d.2.2
        have HBL:=hQ (fun W:World=>p_blocks d.2.2 HIF.out.2 W)
        obtain ⟨x,st,ln⟩:=d
        replace HCELL:=hQ (show ∀j y,([.string x, .int .i64 st, .int .i64 ln]:List Value)[j]? =some y→wr.cell? ⟨g,q*3+j,none⟩=some y from fun j y hy=>by have:=HCELL.out j y hy;rwa [Nat.zero_add] at this)
        replace HBL:=hQ (show ∀W:World,Calls _ _ #[.int .i64 ln] W _ from HBL.out)
        simp only[] at f1 f2 f3 f4 f5
        clear hG hcm hlm hlk hlk3 q2 HOK
        go_upto_region 20 with (first
         |(refine wpList_load_at rfl _ _ rfl g (q*3) [.string x, .int .i64 st, .int .i64 ln] _ rfl HCELL.out Tryz.underlying33 rfl file_size ?_)
         |(refine wpList_store_row rfl _ _ _ rfl wr.heap.size _ #[.string ⟨#[]⟩, .int .i64 0, .int .i64 0] [.string x, .int .i64 st, .int .i64 ln].toArray rfl rfl (heap_alloc_last _ _) 3 file_size rfl rfl rfl ?_)
         |go_in)
        have hbox2:Box 33 wr.heap.size [.string x, .int .i64 st, .int .i64 ln] (wr.alloc (.cells #[.string x, .int .i64 st, .int .i64 ln] 33)):=heap_alloc_last _ _
        have HB2:=hQ (hby.trans ((below_alloc1 wr (.cells #[.string x, .int .i64 st, .int .i64 ln] 33)).mono hby.size))
        generalize wr.alloc (.cells #[.string x, .int .i64 st, .int .i64 ln] 33)=w2 at*
        have c1:=hbox2.cell 1 _ rfl
        have c2:=hbox2.cell 2 _ rfl
        clear hby HCELL hbox2
        generalize wr.heap.size=g2 at*
        by_cases hz:0<ln
        ·have HN1:=hQ (show (E.take (q+1)).foldl costStep c0=(cm.1+(if st-cm.2<cm.2-st then cm.2-st else st-cm.2),st+blocksOf ln) by
          rw[HS.out];unfold costStep;rw[if_pos hz,Int.max_comm,max_if])
         clear HS
         generalize blocksOf ln=bl at*
         generalize cm.1=s1 at*
         generalize cm.2=s2 at*
         go_upto_region 22 with (fail)
         go_quiet ((go_at_call 41;first|with_reducible exact Calls.quiet_of_same (HBL.out _)))
         go_wp2
         go_roundw
         case rel=>exact ⟨q+1,by go_num,by omega,by rw[HN1.out];try (congr 1;split <;> omega),by rw[HN1.out],below_drewN' HB2.out _⟩
         case measure=>simp[RowKit.intOf];omega
        ·have hz':ln≤0:=by omega
         have HN1:=hQ (show (E.take (q+1)).foldl costStep c0=cm by rw[HS.out];unfold costStep;rw[if_neg hz])
         clear HS hz
         go_wp2
         go_roundw
         case rel=>exact ⟨q+1,by go_num,by omega,by rw[HN1.out],by rw[HN1.out],HB2.out⟩
         case measure=>simp[RowKit.intOf];omega
       ·have hq':q=E.length:=by omega
        subst hq'
        rw[List.take_of_length_le (Nat.le_refl _)]
        have hge:(E.length:Int)≤E.length:=Int.le_refl _
        have HN:=hQ (show costOf F (L.take (k+1))=E.foldl costStep c0 by rw[HT.out,HCP.out])
        have HB2:=hQ hby
        clear hby hG2 hG HCP HT
        generalize E.foldl costStep c0=cp at*
        go_wp2
        go_roundw
        case rel=>exact ⟨k+1,by go_num,by omega,by rw[HN.out],by rw[HN.out],HB2.out⟩
        case measure=>simp[RowKit.intOf];omega
     ·have hk':k=L.length:=by omega
      subst hk'
      rw[List.take_of_length_le (Nat.le_refl _)]
      have hge:(L.length:Int)≤L.length:=Int.le_refl _
      have HBX:=hQ hbx
      clear hbx hG
      generalize costOf F L=cp at*
      go_wp2
      go_ret2
      exact ⟨by rw[HC2.out];rfl,HBW.out.trans (HBX.out.mono HBW.out.size)⟩
end Go.Proofs.YtihcgekdnljahaaGreatDoor
end
