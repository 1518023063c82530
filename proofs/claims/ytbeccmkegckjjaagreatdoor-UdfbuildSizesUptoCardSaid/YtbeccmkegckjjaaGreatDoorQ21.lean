/- Law 43, UdfbuildSizes: a part of the proof. -/
import Derived.Test.YtbeccmkegckjjaaGreatDoorQ16
import Derived.Test.YtbeccmkegckjjaaGreatDoorQ20
section
namespace Go.Proofs.YtbeccmkegckjjaaGreatDoor
open Go.RowKit
set_option maxRecDepth 1000000
set_option maxHeartbeats 128000000
theorem info_shown:(Tryz.prog.info? 218).map (·.size)=some 14:=by kernel_rfl
theorem p_clone(f:NF)(a:Option Addr)(c B:Nat)(w:World)(hB:B≤w.heap.size)(hsl:f.streams.length≤40000)
 (hrow: ∀j,(h:j<f.streams.length)→ ∃b off,a=some ⟨b,off,none⟩∧b<B∧w.cell? ⟨b,off+j*2,none⟩=some (.string f.streams[j].1)∧w.cell? ⟨b,off+j*2+1,none⟩=some (.string f.streams[j].2)):
 Calls Tryz.prog 290 #[.slice a f.streams.length c] w fun e w'=>
  ∃(sa:Option Addr) (sc:Nat),e= .returned (.slice sa f.streams.length sc)∧RowV w' (Fr w.heap.size w') (.slice sa f.streams.length sc) 2 (strCells f.streams)∧Below w.heap.size w w':=by
 obtain ⟨i0,hi,hz0,hz1,hz2⟩:=info_parts info_stream
 have q22: ∀(w:World) (a:Option Addr) (n c n' c':Nat),(binOp .eql 23 (.slice a n c) (.slice none n' c')).run Tryz.prog w= .ok (.bool a.isNone) w:=fun w a n c n' c'=>Lib.run_eql_slice_nil w _ _ a n c n' c' Tryz.underlying23
 rcases a with _|ad
 ·have h0:f.streams.length=0:=by
   rcases Nat.eq_zero_or_pos f.streams.length with h|h
   ·exact h
   ·obtain ⟨_,_,e,_⟩:=hrow 0 h;cases e
  have hs0:f.streams=[]:=List.length_eq_zero_iff.1 h0
  rw[h0]
  clear hrow
  go_enter Tryz.func290,Tryz.ntmps290
  go_wp2
  go_ret
  exact ⟨none,0,rfl,⟨none,0,by rw[hs0];rfl,fun i hi=>by rw[hs0] at hi;simp[strCells] at hi⟩,Below.refl _ _⟩
 ·obtain ⟨news,hnews⟩: ∃news:List Value,news=(strCells f.streams).flatten:=⟨_,rfl⟩
  have HN1:=hQ (show news.length=f.streams.length*2 by rw[hnews,flat_len 2 _ (strCells_two _),strCells_len])
  have HN2:=hQ (show ∀u∈news,u.oneCell'=true by rw[hnews];exact strCells_cell _)
  have HN3:=hQ (show 0<f.streams.length→ ∃ad',some ad=some ad'∧ ∀j u,news[j]? =some u→(w.alloc (.cells #[] 122)).cell? (ad'.add j)=some u from fun hpos=>by
   obtain ⟨b0,off0,e0,_⟩:=hrow 0 hpos
   refine ⟨_,e0,fun j u hu=>?_⟩
   rw[hnews] at hu
   obtain ⟨k,i,hk,hi2,rfl,hc⟩:=flat_get 2 _ (strCells_two _) j u hu
   rw[strCells_len] at hk
   rw[strCells_get _ _ hk] at hc
   obtain ⟨b,off,e1,hbB,h0,h1⟩:=hrow k hk
   rw[e0] at e1
   injection e1 with e1
   injection e1 with e1 e2
   subst e1 e2
   have hadd:(⟨b0,off0,none⟩:Addr).add (k*2+i)=⟨b0,off0+(k*2+i),none⟩:=by unfold Addr.add;split <;> simp_all
   have hbA:=(Below.refl w.heap.size w).alloc (Nat.le_refl _) (.cells #[] 122)
   rw[hadd,hbA.cell (Nat.lt_of_lt_of_le hbB hB)]
   match i,hi2,hc with
   |0,_,hc=>simp at hc;subst hc;exact h0
   |1,_,hc=>simp at hc;subst hc;exact h1)
  have HNW:=hQ hnews
  clear hrow hnews
  go_enter Tryz.func290,Tryz.ntmps290
  go_wp2_with (first
   |(at_builtin;refine wpList_append_slice rfl _ _ 23 rfl w.heap.size 122 i0 (.agg #[.string ⟨#[]⟩, .string ⟨#[]⟩]) 2 32 Tryz.underlying23 hi hz0 hz1 hz2 rfl (by decide) (.slice (some ⟨w.heap.size,0,none⟩) 0 0) 0 [] rfl (World.ownsRow_made w #[] 0 (Nat.le_refl _) (Nat.zero_le _) rfl) (some ad) f.streams.length c news rfl ?_ ?_ ?_ ?_ ?_ ?_ ?_)
   |fail)
  ·exact HN1.out
  ·exact HN3.out
  ·exact HN2.out
  ·unfold maxLen;omega
  ·omega
  ·simp
  intro sv w6 hown6 hgrow6
  replace hgrow6:(w.alloc (.cells #[] 122)).grownBy w6 (some w.heap.size):=hgrow6
  have hbA:=(Below.refl w.heap.size w).alloc (Nat.le_refl _) (.cells #[] 122)
  have hb6:=hbA.grown hgrow6 hbA.size (fun j hj=>by injection hj with hj;omega)
  obtain ⟨sa,sc,rfl⟩:=own_slice hown6
  have HO:=hQ hown6
  have HB:=hQ hb6
  clear hown6 hgrow6 hbA hb6 HN1 HN2 HN3
  go_wp2
  go_ret
  refine ⟨sa,sc,rfl,?_,HB.out⟩
  have h:=HO.out
  rw[HNW.out] at h
  exact RowV.of_own (strCells_two _) (strCells_len _).symm h
theorem p_view1(vs:Array Value)(_:vs.size=14)(w:World):Calls Tryz.prog 117 #[.agg vs] w fun e w'=>e= .returned (.tuple #[])∧Below w.heap.size w w':=by
 have hb:=below_alloc1 w
 go_enter Tryz.func117,Tryz.ntmps117
 go_wp2
 exact ⟨rfl, .tuple #[],by simp[results,Tryz.results117],rfl,hb _⟩
def shCells(f:NF)(kv sv:Value)(p s:ByteArray):List Value:=
 [.string f.name, .int .i64 f.kind, .string f.data, .string f.target, .int .i64 f.mode, .int .i64 f.uid, .int .i64 f.gid, .int .i64 f.time, .int .i64 f.weight, .int .i64 f.hidden,kv,sv, .string p, .string s]
theorem sh_nf{f:NF}{kv sv:Value}{p s:ByteArray}{g:Nat}{w:World}{ty:TypeId}(h:Box ty g (shCells f kv sv p s) w): ∀j x,(nfCells f kv sv)[j]? =some x→w.cell? ⟨g,0+j,none⟩=some x:=fun j x hx=>by
 rw[Nat.zero_add]
 have hlt:j<12:=(List.getElem?_eq_some_iff.1 hx).1
 refine h.cell j x ?_
 rw[show shCells f kv sv p s=nfCells f kv sv++[Value.string p,Value.string s] from rfl,List.getElem?_append_left (by exact hlt)]
 exact hx
@[simp,go_sem] def ldShow:Op:= .load 22 (.tmp 91)
abbrev ShowC(n:Nat):Prop:= ∀(t:NT n) (vs:List Value) (B:Nat) (w:World) (l:Nat) (path source:ByteArray),NodeV w (· < B) n t vs→B≤w.heap.size→ntOK n t l=true→ntCount n t≤64→ntBytes n t≤65536→1≤l→l+n≤1000→path.size≤l*70000→source.size≤l*70000→Tabs w→
 Calls Tryz.prog 214 #[.int .i64 3, .agg (vs++[Value.string path,Value.string source]).toArray, .int .i64 (l:Int), .func (.func 117) #[] #[]] w fun e w'=> ∃vs':List Value,e= .returned (.agg vs'.toArray)∧NodeV w' (Fr w.heap.size w') n (ntView n t) vs'∧Below w.heap.size w w'
theorem p_show_succ(n:Nat)(IH0:ShowC n):ShowC (n+1):=by
 rintro ⟨f,kids⟩ vs B w l path source h hB hok hc hz hl hln hp hso0 hT
 obtain ⟨i0,hi,hz0,hz1,hz2⟩:=info_parts info_node
 obtain ⟨ka,kc,a,c,rfl,hrow,hk⟩:=h.parts
 obtain ⟨-, -, -,z4, -⟩:=nf_bounds hz
 have hkl:=kids_len hc
 have hnl:=kidNames_len n kids
 obtain ⟨hok1,hok2⟩:=ntOK_parts hok
 obtain ⟨-, -, -,hso, -⟩:=oneOK_parts hok1
 rw[hnl] at hso
 have HSS:=hQ (shownKids_sorted n kids hso)
 have HKOK:=hQ (fun j (hj:j<kids.length)=>hok2 _ (List.getElem_mem hj))
 have HCLO:=hQ (fun (W:World) (hW:Below w.heap.size w W)=>p_clone f a c B W (Nat.le_trans hB hW.size) z4 (fun j hj=>by
  obtain ⟨b,off,e1,e2,e3,e4⟩:=hrow j hj
  exact ⟨b,off,e1,e2,(hW.cell (Nat.lt_of_lt_of_le e2 hB)).trans e3,(hW.cell (Nat.lt_of_lt_of_le e2 hB)).trans e4⟩))
 have HNMS:=hQ (fun (W:World) (hW:Below w.heap.size w W)=>p_namesN n kids ka kc B W (hT.step hW) (Nat.le_trans hB hW.size) hkl hso (fun j hj=>⟨ntOK_name (HKOK.out j hj) hl,by
  have h1:=name_le_bytes n kids[j]
  have h2:=Nat.le_trans (kid_bytes (f:=f) hj) hz
  omega⟩) (fun j hj=>by
  obtain ⟨b,off,cs,e1,e2,e3,e4⟩:=hk j hj
  exact ⟨b,off,cs,e1,e2,e3.below (hW.mono hB),fun i x hx=>(hW.cell (Nat.lt_of_lt_of_le e2 hB)).trans (e4 i x hx)⟩))
 have HC:=hQ hc
 have HZ:=hQ hz
 have HK:=hQ hk
 have HT:=hQ hT
 have IH:=hQ IH0
 have HP1:=hQ (fun (vs:Array Value) (hs:vs.size=14) (W:World)=>p_view1 vs hs W)
 have HJN:=hQ (fun (p nm:ByteArray) (rb:Bool) (W:World) (h:p.size+nm.size<4294967296)=>p_joinN p nm rb W h)
 have HB0:=hQ (Box.new (ty:=218) w (shCells f (.slice ka kids.length kc) (.slice a f.streams.length c) path source))
 have hb1:=below_alloc1 w (.cells (shCells f (.slice ka kids.length kc) (.slice a f.streams.length c) path source).toArray 218)
 have hll:(l:Int)≤1000:=by omega
 have hln':l+1+n≤1000:=by omega
 have HPS:=hQ (show path.size≤l*70000∧source.size≤l*70000 from ⟨hp,hso0⟩)
 have HLN:=hQ (show l≤1000 by omega)
 rw[show (nfCells f (.slice ka kids.length kc) (.slice a f.streams.length c)++[Value.string path,Value.string source])=shCells f (.slice ka kids.length kc) (.slice a f.streams.length c) path source from rfl]
 clear h hrow hk hok hok1 hok2 hso hc hz hp hso0 hT
 unfold shCells at HB0 hb1 ⊢
 go_enter Tryz.func214,Tryz.ntmps214
 go_upto_region 1 with (fail)
 have hbZ:=hb1.alloc hb1.size (.cells nodeZ 25)
 have HBA:=hQ (HB0.out.step (below_alloc1 _ (.cells nodeZ 25)))
 have HBR:=hQ (show Box 25 (w.heap.size+1) nodeZ.toList _ from by
  have h:=Box.new (ty:=25) (w.alloc (.cells #[.string f.name, .int .i64 f.kind, .string f.data, .string f.target, .int .i64 f.mode, .int .i64 f.uid, .int .i64 f.gid, .int .i64 f.time, .int .i64 f.weight, .int .i64 f.hidden, .slice ka kids.length kc, .slice a f.streams.length c, .string path, .string source] 218)) nodeZ.toList
  rw[alloc_size] at h
  exact h)
 have HS2:=hQ (show ((w.alloc (.cells #[.string f.name, .int .i64 f.kind, .string f.data, .string f.target, .int .i64 f.mode, .int .i64 f.uid, .int .i64 f.gid, .int .i64 f.time, .int .i64 f.weight, .int .i64 f.hidden, .slice ka kids.length kc, .slice a f.streams.length c, .string path, .string source] 218)).alloc (.cells nodeZ 25)).heap.size=w.heap.size+2 by rw[alloc_size,alloc_size])
 unfold nodeZ at hbZ HBA HBR HS2
 generalize (w.alloc _).alloc _=w2 at*
 have hboxA:Box 218 w.heap.size (shCells f (.slice ka kids.length kc) (.slice a f.streams.length c) path source) w2:=HBA.out
 have hboxR:Box 25 (w.heap.size+1) nodeZ.toList w2:=HBR.out
 have hs2:w.heap.size+2≤w2.heap.size:=Nat.le_of_eq HS2.out.symm
 have hnfA:=sh_nf hboxA
 clear HBA HBR HB0 hb1 HS2
 go_upto_region 2 with (first
  |(refine wpList_load_at rfl _ _ rfl w.heap.size 0 (nfCells f (.slice ka kids.length kc) (.slice a f.streams.length c)) _ rfl hnfA Tryz.underlying25 rfl node_size ?_)
  |(refine wpList_store_row rfl _ _ _ rfl w2.heap.size _ nodeZ (nfCells f (.slice ka kids.length kc) (.slice a f.streams.length c)).toArray rfl rfl (heap_alloc_last _ _) 12 node_size rfl rfl (node_one _ _ _ _ _ _ _) ?_)
  |go_in)
 have hst:=box_store 25 w2 nodeZ (nfCells f (.slice ka kids.length kc) (.slice a f.streams.length c))
 unfold nodeZ at hst
 generalize World.setRow _ _ _=w3 at hst ⊢
 unfold nfCells
 obtain ⟨hboxN,hb3⟩:=hst
 have hboxA3:=hboxA.step hb3
 have hboxR3:=hboxR.step hb3
 have hbw3:=hbZ.trans (hb3.mono hbZ.size)
 have hln3:=hboxN.lt
 generalize hGN:w2.heap.size=gN0 at*
 clear hnfA hboxA hboxR hbZ hb3 hGN
 obtain ⟨k0,k1,k2,k3,k4,k5,k6,k7,k8,k9,k10,k11⟩:=hboxN.all
 go_upto_region 3 with (first
  |(refine wpList_store_row rfl _ _ _ rfl w3.heap.size _ nodeZ (nfCells {viewF f with mode:=0,uid:=0,gid:=0} (.slice none 0 0) (.slice none 0 0)).toArray rfl rfl (heap_alloc_last _ _) 12 node_size rfl rfl (node_one _ _ _ _ _ _ _) ?_)
  |go_in)
 have hstO:=box_store 25 w3 nodeZ (nfCells {viewF f with mode:=0,uid:=0,gid:=0} (.slice none 0 0) (.slice none 0 0))
 unfold nodeZ at hstO
 generalize World.setRow _ _ _=w4 at hstO ⊢
 obtain ⟨hboxO,hb4⟩:=hstO
 have hboxA4:=hboxA3.step hb4
 have hboxR4:=hboxR3.step hb4
 have hboxN4:=hboxN.step hb4
 have hbw4:=hbw3.trans (hb4.mono hbw3.size)
 have hG9N:gN0<w3.heap.size:=hln3
 generalize hG9:w3.heap.size=G9 at*
 clear k0 k1 k2 k3 k4 k5 k6 k7 k8 k9 k10 k11 hboxA3 hboxR3 hboxN hbw3 hb4 hG9 hln3
 obtain ⟨k0,k1,k2,k3,k4,k5,k6,k7,k8,k9,k10,k11⟩:=hboxN4.all
 have q4:=hboxO.cell 4 _ rfl
 have q5:=hboxO.cell 5 _ rfl
 have q6:=hboxO.cell 6 _ rfl
 have f4:=hboxO.frozen 4
 have f5:=hboxO.frozen 5
 have f6:=hboxO.frozen 6
 go_upto_region 4 with (fail)
 go_region
 have hbox8:=(((hboxO.setCell 4 (.int .i64 f.mode)).setCell 5 (.int .i64 f.uid)).setCell 6 (.int .i64 f.gid)).step (below_drew (Below.refl _ _))
 have hk8:Kp (fun b=>b=G9) w4 (((w4.setCell ⟨G9,4,none⟩ (.int .i64 f.mode)).setCell ⟨G9,5,none⟩ (.int .i64 f.uid)).setCell ⟨G9,6,none⟩ (.int .i64 f.gid)).drew:=
  (((Kp.setIn w4 _ 4 _).trans (Kp.setIn _ _ 5 _)).trans (Kp.setIn _ _ 6 _)).trans (Kp.of (below_drew (Below.refl _ _)))
 clear k0 k1 k2 k3 k4 k5 k6 k7 k8 k9 k10 k11 q4 q5 q6 f4 f5 f6
 generalize World.drew _=w5 at*
 have hboxO5:Box 25 G9 (nfCells (viewF f) (.slice none 0 0) (.slice none 0 0)) w5:=hbox8
 have hGA:w.heap.size+2≤gN0:=by omega
 have hboxA5:=hboxA4.kp hk8 (by omega)
 have hboxR5:=hboxR4.kp hk8 (by omega)
 have hboxN5:=hboxN4.kp hk8 (by omega)
 have hbw5:Below w.heap.size w w5:=hbw4.trans (hk8.below (fun b hb=>by omega) hbw4.size)
 have hG5:=hboxO5.lt
 clear hbox8 hk8 hboxO hboxA4 hboxR4 hboxN4 hbw4
 have n11:=hboxN5.cell 11 _ rfl
 go_wp2_with fail
 refine (HCLO.out _ hbw5).mono ?_
 rintro e w6 ⟨sa,sc,rfl,hsv,hb6⟩
 have hboxA6:=hboxA5.step hb6
 have hboxR6:=hboxR5.step hb6
 have hboxN6:=hboxN5.step hb6
 have hboxO6:=hboxO5.step hb6
 have hbw6:=hbw5.trans (hb6.mono hbw5.size)
 clear hboxA5 hboxR5 hboxN5 hboxO5 hbw5 n11 HCLO
 have q11:=hboxO6.cell 11 _ rfl
 have f11:=hboxO6.frozen 11
 have hkS:=Kp.setIn w6 G9 11 (.slice sa f.streams.length sc)
 have hsv7:RowV (w6.setCell ⟨G9,11,none⟩ (.slice sa f.streams.length sc)) (fun b=>G9<b∧b<w6.heap.size) (.slice sa f.streams.length sc) 2 (strCells f.streams):=hsv.frame fun b hp=>⟨⟨Nat.lt_of_lt_of_le hG5 hp.1,hp.2⟩,fun o=>hkS.cell hp.2 (fun e=>by have:=hp.1;omega) o⟩
 have hboxA7:=hboxA6.kp hkS (by omega)
 have hboxR7:=hboxR6.kp hkS (by omega)
 have hboxN7:=hboxN6.kp hkS (by omega)
 have hboxO7:=hboxO6.setCell 11 (.slice sa f.streams.length sc)
 have hbw7:Below w.heap.size w _:=hbw6.trans (hkS.below (fun b hb=>by omega) hbw6.size)
 have hs7:w6.heap.size≤(w6.setCell ⟨G9,11,none⟩ (.slice sa f.streams.length sc)).heap.size:=hkS.size
 have hG6:=hboxO6.lt
 go_upto_region 7 with (fail)
 clear hsv hb6 hboxA6 hboxR6 hboxN6 hboxO6 hbw6 q11 f11 hkS
 generalize w6.setCell _ _=w7 at*
 generalize w6.heap.size=K1 at*
 have hbU:=hboxA7
 unfold shCells at hbU
 go_wp2_with (first
  |(refine wpList_load_row rfl _ _ rfl w.heap.size _ _ _ rfl hbU Tryz.underlying218 rfl 14 info_shown rfl ?_)
  |fail)
 refine (HP1.out _ rfl _).mono ?_
 rintro e w8 ⟨rfl,hb8⟩
 have hboxA8:=hboxA7.step hb8
 have hboxR8:=hboxR7.step hb8
 have hboxN8:=hboxN7.step hb8
 have hboxO8:Box 25 G9 (nfCells (viewF f) (.slice none 0 0) (.slice sa f.streams.length sc)) w8:=hboxO7.step hb8
 have hbw8:=hbw7.trans (hb8.mono hbw7.size)
 have hsv8:RowV w8 (fun b=>G9<b∧b<K1) (.slice sa f.streams.length sc) 2 (strCells f.streams):=hsv7.frame fun b hp=>⟨hp,fun o=>hb8.cell (Nat.lt_of_lt_of_le hp.2 hs7)⟩
 have hs8:=Nat.le_trans hs7 hb8.size
 clear hbU hboxA7 hboxR7 hboxN7 hboxO7 hbw7 hsv7 hs7 hb8 HP1
 have n10:=hboxN8.cell 10 _ rfl
 go_wp2_with fail
 refine (HNMS.out _ hbw8).mono ?_
 rintro e w9 ⟨gN,rfl,hownN,hb9⟩
 have hboxA9:=hboxA8.step hb9
 have hboxR9:=hboxR8.step hb9
 have hboxN9:=hboxN8.step hb9
 have hboxO9:=hboxO8.step hb9
 have hbw9:=hbw8.trans (hb9.mono hbw8.size)
 have hsv9:RowV w9 (fun b=>G9<b∧b<K1) (.slice sa f.streams.length sc) 2 (strCells f.streams):=hsv8.frame fun b hp=>⟨hp,fun o=>hb9.cell (Nat.lt_of_lt_of_le hp.2 hs8)⟩
 have hs9:=Nat.le_trans hs8 hb9.size
 have hgN:=(own_cap hownN).2
 have hgG:G9<gN:=Nat.lt_of_lt_of_le hboxO8.lt (hownN.lt gN rfl).1
 have HNC:=hQ (fun j (hj:j<kids.length)=>show w9.cell? ⟨gN,j,none⟩=some (.string (ntF n kids[j]).name) by
  rw[hownN.cellAt j (by omega),List.getElem?_map,List.getElem?_eq_getElem (by rw[hnl];exact hj)]
  simp[kidNames])
 have n10:=hboxN9.cell 10 _ rfl
 have hG9L:=hboxO9.lt
 clear hboxA8 hboxR8 hboxN8 hboxO8 hbw8 hsv8 hs8 hb9 hownN HNMS
 generalize hK0:w9.heap.size=K0 at*
 go_wp2_with fail
 clear n10 hboxN9
 go_loopw [63] (fun i wr=> ∃k:Nat,k≤kids.length∧i= .int .i64 k∧Kp (fun b=>b=G9) w9 wr∧Below w.heap.size w wr∧K0≤wr.heap.size∧ ∃ca cc,KidsA wr K0 n (.slice ca (shownKids n (kids.take k)).length cc) (shownKids n (kids.take k))∧
  Box 25 G9 (nfCells (viewF f) (.slice ca (shownKids n (kids.take k)).length cc) (.slice sa f.streams.length sc)) wr∧Box 218 w.heap.size (shCells f (.slice ka kids.length kc) (.slice a f.streams.length c) path source) wr∧Box 25 (w.heap.size+1) nodeZ.toList wr) (fun i _=>kids.length-(intOf i).toNat)
 case atStart=>exact ⟨0,Nat.zero_le _,rfl,Kp.refl _ _,hbw9,Nat.le_of_eq hK0.symm,none,0,KidsA.nothing w9 K0 n,hboxO9,hboxA9,hboxR9⟩
 case round=>
  obtain ⟨k,hk,rfl,hbr,hbw,hszr,ca,cc,hkr,hbox,hboxA,hboxR⟩:=hrel
  clear hboxO9 hboxA9 hboxR9 hbw9
  by_cases hlt:k<kids.length
  ·have hi1:(k:Int)<kids.length:=by omega
   obtain ⟨b,off,cs,rfl,hbB,hnode0,hcell⟩:=HK.out k hlt
   have hnode:=hnode0.below (hbw.mono hB)
   obtain ⟨a',a2',l',c',l2',c2',rfl⟩:=hnode.cellsF
   have hbb:b<w.heap.size:=Nat.lt_of_lt_of_le hbB hB
   have hcell': ∀j x,(nfCells (ntF n kids[k]) (.slice a' l' c') (.slice a2' l2' c2'))[j]? =some x→wr.cell? ⟨b,off+k*12+j,none⟩=some x:=fun j x hx=>(hbw.cell hbb).trans (hcell j x hx)
   have HCALL:=hQ (fun (W:World) (p s:ByteArray) (hp:p.size≤(l+1)*70000) (hs:s.size≤(l+1)*70000) (hW:Below wr.heap.size wr W)=>IH.out kids[k] _ B W (l+1) p s (hnode.below (hW.mono (Nat.le_trans hB hbw.size))) (Nat.le_trans hB (Nat.le_trans hbw.size hW.size)) (HKOK.out k hlt) (Nat.le_trans (kid_count (f:=f) hlt) HC.out) (Nat.le_trans (kid_bytes (f:=f) hlt) HZ.out) (by omega) hln' hp hs (HT.out.step (hbw.trans (hW.mono hbw.size))))
   have HSH:=hQ (fun W:World=>p_shownN (ntF n kids[k]) a' a2' l' c' l2' c2' ((l:Int)+1) W (ntOK_hidden (HKOK.out k hlt)))
   have HSN:=hQ (shownKids_snoc n kids k hlt)
   have HNZ:=hQ (show (ntF n kids[k]).name.size≤65536 from by
    have h1:=name_le_bytes n kids[k]
    have h2:=Nat.le_trans (kid_bytes (f:=f) hlt) HZ.out
    omega)
   have d0:wr.cell? ⟨gN,k,none⟩=some (.string (ntF n kids[k]).name):=(hbr.cell (by rw[hK0];exact hgN) (by omega) k).trans (HNC.out k hlt)
   clear hnode hnode0 hcell
   generalize kids[k]=kd at*
   generalize hfk:ntF n kd=f' at*
   have HFK:=hQ hfk
   clear hfk
   have hrs: ∀(p nm:ByteArray),p.size≤l*70000→nm.size≤65536→p.size+nm.size<4294967296∧p.size+nm.size+1≤(l+1)*70000:=fun p nm h1 h2=>by
    have:=HLN.out
    omega
   have HRS:=hQ hrs
   clear hrs
   go_upto_region 12 with (first
    |(refine wpList_load_at rfl _ _ rfl b (off+k*12) (nfCells f' (.slice a' l' c') (.slice a2' l2' c2')) _ rfl hcell' Tryz.underlying25 rfl node_size ?_)
    |(refine wpList_store_row rfl _ _ _ rfl wr.heap.size _ nodeZ (nfCells f' (.slice a' l' c') (.slice a2' l2' c2')).toArray rfl rfl (heap_alloc_last _ _) 12 node_size rfl rfl (node_one _ _ _ _ _ _ _) ?_)
    |go_in)
   have hst:=box_store 25 wr nodeZ (nfCells f' (.slice a' l' c') (.slice a2' l2' c2'))
   unfold nodeZ at hst
   generalize World.setRow _ _ _=w6 at hst ⊢
   obtain ⟨hboxK,hb6⟩:=hst
   have hgR:wr.heap.size≤wr.heap.size:=Nat.le_refl _
   generalize hGK:wr.heap.size=gK at hboxK hgR ⊢
   have HGK0:=hQ hGK
   clear hGK hcell'
   obtain ⟨k0,k1,k2,k3,k4,k5,k6,k7,k8,k9,k10,k11⟩:=hboxK.all
   unfold nfCells at HSH
   rw[show ((l+1:Nat):Int)=(l:Int)+1 by omega] at HCALL
   cases hsh:shownF f'
   ·rw[hsh,if_neg (by decide),List.append_nil] at HSN
    rw[hsh] at HSH
    go_wp2_with fail
    refine (HSH.out _).mono ?_
    rintro e w7 ⟨rfl,hb7⟩
    clear k0 k1 k2 k3 k4 k5 k6 k7 k8 k9 k10 k11
    have hb67:=hb6.trans (hb7.mono hb6.size)
    have R1:=hQ (hbr.trans (Kp.of hb67))
    have R2:=hQ (hbw.trans (hb67.mono hbw.size))
    have R3:=hQ (Nat.le_trans hszr hb67.size)
    have R4:=hQ (hkr.step hb67)
    have R5:=hQ (hbox.step hb67)
    have R6:=hQ (hboxA.step hb67)
    have R7:=hQ (hboxR.step hb67)
    clear hbr hbw hszr hkr hbox hboxA hboxR hb6 hb7 hb67 hboxK d0 HCALL HSH
    go_wp2
    go_roundw
    case rel=>exact ⟨k+1,by omega,by go_num,R1.out,R2.out,R3.out,ca,cc,by rw[HSN.out];exact R4.out,by rw[HSN.out];exact R5.out,R6.out,R7.out⟩
    case measure=>simp[intOf];omega
   ·rw[hsh,if_pos rfl] at HSN
    rw[hsh] at HSH
    go_wp2_with fail
    refine (HSH.out _).mono ?_
    rintro e w7 ⟨rfl,hb7⟩
    clear k0 k1 k2 k3 k4 k5 k6 k7 k8 k9 k10 k11
    have hb67:=hb6.trans (hb7.mono hb6.size)
    have hboxK7:=hboxK.step hb7
    have hboxA7:=hboxA.step hb67
    have d7:=(hb67.cell (World.block_lt_of_cell? _ _ d0)).trans d0
    have n0:=hboxK7.cell 0 _ rfl
    have a13:=hboxA7.cell 13 _ rfl
    clear hboxK hb6 hb7 hboxA7 d0 HSH
    go_wp2_with fail
    refine (HJN.out source f'.name _ _ (HRS.out source f'.name HPS.out.2 HNZ.out).1).mono ?_
    rintro e w7' ⟨⟨s2,rfl,hs2⟩,rfl⟩
    have HS2:=hQ (Nat.le_trans hs2 (HRS.out source f'.name HPS.out.2 HNZ.out).2)
    have nf0:=hboxK7.frozen 0
    have hboxK8:Box 25 gK (nfCells f' (.slice a' l' c') (.slice a2' l2' c2')) (w7'.setCell ⟨gK,0,none⟩ (.string f'.name)):=hboxK7.setCell 0 (.string f'.name)
    have hb68:Below wr.heap.size wr (w7'.setCell ⟨gK,0,none⟩ (.string f'.name)):=hb67.setCell (p:=⟨gK,0,none⟩) (Nat.le_of_eq HGK0.out) _
    clear hs2 a13 hboxK7 hb67
    go_upto_region 15 with (fail)
    clear d7 n0 nf0
    generalize w7'.setCell _ _=w8 at*
    have R1:=hQ (hbr.trans (Kp.of hb68))
    have R2:=hQ (hbw.trans (hb68.mono hbw.size))
    have R3:=hQ (Nat.le_trans hszr hb68.size)
    have R4:=hQ (hkr.step hb68)
    have R5:=hQ (hbox.step hb68)
    have R6:=hQ (hboxA.step hb68)
    have R7:=hQ (hboxR.step hb68)
    have hbd:=below_drew (Below.refl w8.heap.size w8)
    have HC8:=hQ (show ∀(p:ByteArray),p.size≤(l+1)*70000→Calls Tryz.prog 214 #[.int .i64 3, .agg #[.string f'.name, .int .i64 f'.kind, .string f'.data, .string f'.target, .int .i64 f'.mode, .int .i64 f'.uid, .int .i64 f'.gid, .int .i64 f'.time, .int .i64 f'.weight, .int .i64 f'.hidden, .slice a' l' c', .slice a2' l2' c2', .string p, .string s2],
     .int .i64 (IntKind.i64.wrap ((l:Int)+1)), .func (.func 117) #[] #[]] w8.drew fun e w'=> ∃vs':List Value,e= .returned (.agg vs'.toArray)∧NodeV w' (Fr w8.drew.heap.size w') n (ntView n kd) vs'∧Below w8.drew.heap.size w8.drew w' from fun p hp=>by
     have h:=HCALL.out _ p s2 hp HS2.out (hb68.trans (hbd.mono hb68.size))
     rw[show (l:Int)+1=IntKind.i64.wrap ((l:Int)+1) by rw[IntKind.wrap_i64];omega] at h
     exact h)
    have hml:(shownKids n (kids.take k)).length≤64:=by
     have h1:(shownKids n (kids.take k)).length≤(kids.take k).length:=by unfold shownKids;rw[List.length_map];exact List.length_filter_le _ _
     rw[List.length_take] at h1;omega
    have hgs:=R5.out.lt
    have hkO: ∀q,(Value.slice ca (shownKids n (kids.take k)).length cc).ownBlock=some q→q<gK∧K0≤q:=fun q hq=>by
     obtain ⟨kcsq,hRq⟩:=hkr
     have:=(hRq.elim fun _ h=>h.1).lt q hq
     have:=HGK0.out
     omega
    have hKG:G9<gK:=by have:=HGK0.out;omega
    clear hbr hbw hszr hkr hbox hboxA hboxR HCALL
    generalize hsk:shownKids n (kids.take k)=sk at*
    have HSK:=hQ hsk
    clear hsk
    obtain ⟨kcs,hR⟩:=R4.out
    have HR:=hQ hR
    have HOWN:=hQ (hR.elim fun _ h=>h.1)
    obtain ⟨k0,k1,k2,k3,k4,k5,k6,k7,k8,k9,k10,k11⟩:=hboxK8.all
    have q10:=R5.out.cell 10 _ rfl
    have c12:=R6.out.cell 12 _ rfl
    have hAK:w.heap.size<K0∧w.heap.size≠G9:=by omega
    have hGK: ∀g,K0≤g→some G9≠some g:=fun g h e=>by injection e;omega
    have MKS:=hQ (show ∀W:World,Kp (fun b=>b=G9∨(Value.slice ca sk.length cc).ownBlock=some b) w8 W→(W.cell? ⟨gK,0,none⟩=some (.string f'.name)∧W.cell? ⟨gK,1,none⟩=some (.int .i64 f'.kind)∧W.cell? ⟨gK,2,none⟩=some (.string f'.data)∧W.cell? ⟨gK,3,none⟩=some (.string f'.target)∧
     W.cell? ⟨gK,4,none⟩=some (.int .i64 f'.mode)∧W.cell? ⟨gK,5,none⟩=some (.int .i64 f'.uid)∧W.cell? ⟨gK,6,none⟩=some (.int .i64 f'.gid)∧W.cell? ⟨gK,7,none⟩=some (.int .i64 f'.time)∧W.cell? ⟨gK,8,none⟩=some (.int .i64 f'.weight)∧
     W.cell? ⟨gK,9,none⟩=some (.int .i64 f'.hidden)∧W.cell? ⟨gK,10,none⟩=some (.slice a' l' c')∧W.cell? ⟨gK,11,none⟩=some (.slice a2' l2' c2')∧W.cell? ⟨w.heap.size,12,none⟩=some (.string path)) from fun W hW=>by
     have hb1: ∀o x,w8.cell? ⟨gK,o,none⟩=some x→W.cell? ⟨gK,o,none⟩=some x:=fun o x h=>(hW.cell (World.block_lt_of_cell? _ _ h) (fun hc=>hc.elim (fun (h1:gK=G9)=>by omega) fun h2=>by have h3:gK<gK:=(hkO _ h2).1;omega) o).trans h
     exact ⟨hb1 _ _ k0,hb1 _ _ k1,hb1 _ _ k2,hb1 _ _ k3,hb1 _ _ k4,hb1 _ _ k5,hb1 _ _ k6,hb1 _ _ k7,hb1 _ _ k8,hb1 _ _ k9,hb1 _ _ k10,hb1 _ _ k11,
      (hW.cell (World.block_lt_of_cell? _ _ c12) (fun hc=>hc.elim (fun h1=>hAK.2 h1) fun h2=>by have h3:K0≤w.heap.size:=(hkO _ h2).2;omega) 12).trans c12⟩)
    have FR8:=hQ (Kp.of (C:=fun b=>b=G9∨(Value.slice ca sk.length cc).ownBlock=some b) hbd)
    have HGK:=hQ hGK
    have HKO:=hQ hkO
    have HWK:=hQ (show w.heap.size≤K0∧w.heap.size≤G9∧G9<K0 by omega)
    have HHK:=hQ hK0
    have HJ8:=hQ (fun (rb:Bool) (W:World)=>HJN.out path f'.name rb W (HRS.out path f'.name HPS.out.1 HNZ.out).1)
    have HJZ:=hQ (HRS.out path f'.name HPS.out.1 HNZ.out).2
    clear hR k0 k1 k2 k3 k4 k5 k6 k7 k8 k9 k10 k11 c12 hAK hGK hbd hkO hboxK8
    rw[show (Op.load 22 (.tmp 91))=ldShow from rfl]
    go_region_held3 (fun W=>(W.cell? ⟨gK,0,none⟩=some (.string f'.name)∧W.cell? ⟨gK,1,none⟩=some (.int .i64 f'.kind)∧W.cell? ⟨gK,2,none⟩=some (.string f'.data)∧W.cell? ⟨gK,3,none⟩=some (.string f'.target)∧
     W.cell? ⟨gK,4,none⟩=some (.int .i64 f'.mode)∧W.cell? ⟨gK,5,none⟩=some (.int .i64 f'.uid)∧W.cell? ⟨gK,6,none⟩=some (.int .i64 f'.gid)∧W.cell? ⟨gK,7,none⟩=some (.int .i64 f'.time)∧W.cell? ⟨gK,8,none⟩=some (.int .i64 f'.weight)∧
     W.cell? ⟨gK,9,none⟩=some (.int .i64 f'.hidden)∧W.cell? ⟨gK,10,none⟩=some (.slice a' l' c')∧W.cell? ⟨gK,11,none⟩=some (.slice a2' l2' c2')∧W.cell? ⟨w.heap.size,12,none⟩=some (.string path)))
     (first|(with_reducible exact MKS.out _ FR8.out)|(with_reducible exact MKS.out _ FR10.out)|(with_reducible exact MKS.out _ (FR10.out.trans (Kp.of (below_alloc1 _ _))))|(with_reducible exact MKS.out _ FR11.out)|(with_reducible exact MKS.out _ (FR11.out.trans ((Kp.setIn _ G9 10 _).wk fun b hb=>Or.inl hb))))
     (first
     |(refine step_append_blk rfl _ _ 22 rfl K0 25 i0 (.agg nodeZ) 12 152 Tryz.underlying22 hi hz0 hz1 hz2 rfl (by decide) (.slice ca sk.length cc) sk.length kcs.flatten rfl ?_ ⟨w10.heap.size,0,none⟩ 1 1 (nfCells f7 (.slice b1 d1 e1) (.slice b2 d2 e2)) rfl rfl ?_ ?_ ?_ ?_ ?_ ?_
       ·exact own_below' HOWN.out (HB10.out.trans ((below_alloc1 w10 _).mono HB10.out.size))
       ·exact World.news_of_block (fr:=(0,0)) (heap_alloc_last _ _)
       ·exact nf_cell _ _ _ _ _ _ _
       ·unfold maxLen;omega
       ·omega
       ·exact Nat.le_trans HSZ10.out (below_alloc1 w10 _).size
       intro v11 w11 hown11 hgrow11 hblk11
       obtain ⟨sa11,sc11,rfl⟩:=own_slice hown11
       have hbox11:=(HBX10.out.step (below_alloc1 w10 (.cells (nfCells f7 (.slice b1 d1 e1) (.slice b2 d2 e2)).toArray 25))).grown hgrow11 (fun e=>by
        rcases hq:(Value.slice ca sk.length cc).ownBlock with _|gq
        ·rw[hq] at e;cases e
        ·exact HGK.out gq (HOWN.out.lt gq hq).1 (e.trans hq))
       have FR11:=hQ ((FR10.out.trans (Kp.of (below_alloc1 w10 (.cells (nfCells f7 (.slice b1 d1 e1) (.slice b2 d2 e2)).toArray 25)))).trans (Kp.of_grown hgrow11 fun gq hq=>Or.inr hq))
       have HO11:=hQ hown11
       have HBLK11:=hQ (show ∀g,(Value.slice sa11 (sk.length+1) sc11).ownBlock=some g→(Value.slice ca sk.length cc).ownBlock=some g∨(w10.alloc (.cells (nfCells f7 (.slice b1 d1 e1) (.slice b2 d2 e2)).toArray 25)).heap.size≤g from fun g hg=>by have:=hblk11 g hg;rw[alloc_size];first|exact this|(rw[alloc_size] at this;exact this))
       have HG11:=hQ hgrow11
       have HX11:=hQ hbox11
       have q11:=hbox11.cell 10 _ rfl
       have f11:=hbox11.frozen 10
       clear hown11 hgrow11 hbox11 hblk11)
     |(go_at_call 293;refine (HJ8.out _ _).mono ?_;rintro e w9' ⟨⟨s3,rfl,hs3⟩,rfl⟩;have HS3:=hQ (Nat.le_trans hs3 HJZ.out);clear hs3)
     |(go_at_call 214;refine (HC8.out _ HS3.out).mono ?_;rintro e w10 ⟨vs10,rfl,hn10,hb10⟩;obtain ⟨b1,b2,d1,e1,d2,e2,rfl⟩:=hn10.cellsF;have HN10:=hQ hn10;have HB10:=hQ (show Below w8.heap.size w8 w10 from (below_drew (Below.refl w8.heap.size w8)).trans hb10);have hbox10:=R5.out.step HB10.out;have HBX10:=hQ hbox10;have q10b:=hbox10.cell 10 _ rfl;have q10a:=fun o=>(hbox10.step (below_alloc1 w10 o)).cell 10 _ rfl;have HSZ10:=hQ (Nat.le_trans R3.out hb10.size);have FR10:=hQ (FR8.out.trans (Kp.of hb10));generalize ntF n (ntView n kd)=f7 at *;clear hn10 hb10 hbox10;unfold nfCells))
    all_goals
     as_aux_lemma=>
      have FR12:=FR11.out.trans ((Kp.setIn w11 G9 10 (.slice sa11 (sk.length+1) sc11)).wk fun b hb=>Or.inl hb)
      have Z1:=hQ (R1.out.far FR12 fun b hb=>hb.elim Or.inl (fun h=>Or.inr (by rw[HHK.out];exact (HKO.out b h).2)))
      have Z2:=hQ (R2.out.trans (FR12.below (B:=w.heap.size) (fun b hb=>hb.elim (fun h=>by have:=HWK.out.2.1;omega) fun h=>Nat.le_trans HWK.out.1 (HKO.out b h).2) R2.out.size))
      have Z3:=hQ (Nat.le_trans R3.out FR12.size)
      have Z4:=hQ ((KidsA.snoc HR.out R3.out HB10.out HN10.out (below_alloc1 w10 _) HO11.out HG11.out HBLK11.out).kp (Kp.setIn w11 G9 10 (.slice sa11 (sk.length+1) sc11)) (fun b hb=>by have:=HWK.out.2.2;omega))
      have Z5:=hQ (HX11.out.setCell 10 (.slice sa11 (sk.length+1) sc11))
      have Z6:=hQ (R6.out.kp FR12 (fun hd=>hd.elim (fun h=>by have:=HWK.out;omega) fun h=>by have:=(HKO.out _ h).2;have:=HWK.out;omega))
      have Z7:=hQ (R7.out.kp FR12 (fun hd=>hd.elim (fun h=>by have:=HWK.out;omega) fun h=>by have:=(HKO.out _ h).2;have:=HWK.out;omega))
      clear q11 f11 FR12
      go_wp2
      go_roundw
      case rel=>
       refine ⟨k+1,by omega,by go_num,Z1.out,Z2.out,Z3.out,sa11,sc11,?_,?_,Z6.out,Z7.out⟩
       ·rw[HSN.out,List.length_append];exact Z4.out
       ·rw[HSN.out,List.length_append];exact Z5.out
      case measure=>simp[intOf];omega
  ·have hi1:(kids.length:Int)≤k:=by omega
   have hk':k=kids.length:=by omega
   rw[hk',List.take_length] at hkr hbox
   have hsl:=kidNames_len n (shownKids n kids)
   have hmlen:(shownKids n kids).length≤64:=by
    unfold shownKids
    rw[List.length_map]
    exact Nat.le_trans (List.length_filter_le _ _) hkl
   have hkr':=hkr
   obtain ⟨kcs,hkl9,hown9,hnod9⟩:=hkr'
   have HSRT:=hQ (show Calls Tryz.prog 294 #[.slice ca (shownKids n kids).length cc, .func (.func 295) #[] #[]] wr fun e w'=>e= .returned (.tuple #[])∧Below wr.heap.size wr w' from by
    have h:=p_sortK (kidNames n (shownKids n kids)) (by rw[hsl];exact HSS.out) (by omega) wr ca cc K0 kcs (by omega) (by rw[hsl];exact hown9) (fun j hj=>by
     obtain ⟨b1,b2,d1,e1,d2,e2,e⟩:=(hnod9 j (by omega)).cellsF
     exact ⟨_,b1,b2,d1,e1,d2,e2,by simp[kidNames],e⟩)
    rw[hsl] at h
    exact h)
   obtain ⟨kcs',hkl',hrv,hnod⟩:=hkr.rowV
   have hGK0:G9<K0:=hG9L
   have hsv10:RowV wr (Fr (w.heap.size+2) wr) (.slice sa f.streams.length sc) 2 (strCells f.streams):=hsv9.frame fun b hp=>⟨⟨by have:=hp.1;omega,by have:=hp.2;omega⟩,fun o=>hbr.cell (by have:=hp.2;omega) (fun e=>by have:=hp.1;omega) o⟩
   have hN9:NodeV wr (Fr (w.heap.size+2) wr) (n+1) (ntView (n+1) (f,kids)) (nfCells (viewF f) (.slice ca (shownKids n kids).length cc) (.slice sa f.streams.length sc)):=
    ⟨_,_,kcs',rfl,hsv10,hrv.fr_base (by omega),hkl',fun j hj hj'=>(hnod j hj).fr_base (by omega)⟩
   have c10:=hbox.cell 10 _ rfl
   clear hkr hown9 hnod9 hrv hnod hsv9 hsv10 hbr hk' HSS HNC
   go_wp2_with fail
   refine HSRT.out.mono ?_
   rintro e w10 ⟨rfl,hb10⟩
   have hboxR10:=hboxR.step hb10
   have hbL:=hbox.step hb10
   have hlt:=hboxR.lt
   have hN10:=hN9.fr_step hb10
   have hbw10:=hbw.trans (hb10.mono hbw.size)
   unfold nfCells at hbL
   have hboxF:=hboxR10.setRow (nfCells (viewF f) (.slice ca (shownKids n kids).length cc) (.slice sa f.streams.length sc))
   have hkF:=Kp.setRow w10 (w.heap.size+1) (nfCells (viewF f) (.slice ca (shownKids n kids).length cc) (.slice sa f.streams.length sc)).toArray
   clear c10 hbox hboxR hN9 hbw
   go_wp2_with (first
    |(refine wpList_load_row rfl _ _ rfl G9 _ _ _ rfl hbL Tryz.underlying25 rfl 12 node_size rfl ?_)
    |(refine wpList_store_row rfl _ _ _ rfl (w.heap.size+1) _ _ (nfCells (viewF f) (.slice ca (shownKids n kids).length cc) (.slice sa f.streams.length sc)).toArray rfl rfl hboxR10 12 node_size rfl rfl (node_one _ _ _ _ _ _ _) ?_)
    |go_in)
   refine bodyPost_ret (results_cell_row Tryz.results214 _ _ (w.heap.size+1) _ _ _ _ rfl hboxF Tryz.underlying25 rfl node_size) rfl ⟨_,rfl,?_,hbw10.trans (hkF.below (fun b hb=>by omega) hbw10.size)⟩
   exact (hN10.fr_kp hkF (fun b hb=>by omega)).fr_base (by omega)
theorem p_show: ∀n,ShowC n
 |0=>fun _ _ _ _ _ _ _ h=>h.elim
 |n+1=>p_show_succ n (p_show n)
end Go.Proofs.YtbeccmkegckjjaaGreatDoor
end
