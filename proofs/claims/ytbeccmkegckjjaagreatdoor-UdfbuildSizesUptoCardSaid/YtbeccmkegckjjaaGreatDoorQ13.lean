/- Law 43, UdfbuildSizes: a part of the proof. -/
import Derived.Test.YtbeccmkegckjjaaGreatDoorQ12
import Derived.Test.YtbeccmkegckjjaaGreatDoorQ07
set_option linter.unusedVariables false
set_option linter.ambiguousOpen false
set_option linter.unusedSimpArgs false
section
namespace Go.Proofs.YtbeccmkegckjjaaGreatDoor
open Go.RowKit
set_option maxRecDepth 1000000
set_option maxHeartbeats 3200000
def kidNames(n:Nat)(l:List (NT n)):List ByteArray:=l.map fun k=>(ntF n k).name
theorem kidNames_len(n:Nat)(l:List (NT n)):(kidNames n l).length=l.length:=by simp[kidNames]
noncomputable def ntOK:(n:Nat)→NT n→Nat→Bool
 |0,_,_=>true
 |n+1,t,l=>oneOK t.1 (kidNames n t.2) l&&t.2.all fun k=>ntOK n k (l+1)
noncomputable def kidsOK(n:Nat)(l:List (NT n))(lv k:Nat):Bool:=(l.take k).all fun t=>ntOK n t lv
theorem kidsOK_succ(n:Nat)(l:List (NT n))(lv k:Nat)(h:k<l.length):kidsOK n l lv (k+1)=(kidsOK n l lv k&&ntOK n l[k] lv):=by
 unfold kidsOK
 rw[List.take_succ_eq_append_getElem h,List.all_append];simp
theorem kidsOK_mono(n:Nat)(l:List (NT n))(lv k:Nat)(hf:kidsOK n l lv k=false):kidsOK n l lv l.length=false:=by
 unfold kidsOK at*
 rw[Bool.eq_false_iff] at*
 intro hm
 refine hf (List.all_eq_true.2 fun x hx=>List.all_eq_true.1 hm x ?_)
 rw[List.take_length]
 exact List.mem_of_mem_take hx
theorem ntOK_def(n:Nat)(f:NF)(kids:List (NT n))(l:Nat):ntOK (n+1) (f,kids) l=(oneOK f (kidNames n kids) l&&kidsOK n kids (l+1) kids.length):=by
 unfold kidsOK
 rw[List.take_length];rfl
theorem NodeV.parts{w:World}{p:Nat→Prop}{n:Nat}{f:NF}{kids:List (NT n)}{vs:List Value}(h:NodeV w p (n+1) (f,kids) vs):
 ∃(ka:Option Addr) (kc:Nat) (a:Option Addr) (c:Nat),vs=nfCells f (.slice ka kids.length kc) (.slice a f.streams.length c)∧
  (∀j,(h:j<f.streams.length)→ ∃b off,a=some ⟨b,off,none⟩∧p b∧w.cell? ⟨b,off+j*2,none⟩=some (.string f.streams[j].1)∧w.cell? ⟨b,off+j*2+1,none⟩=some (.string f.streams[j].2))∧
  (∀j,(h:j<kids.length)→ ∃b off cs,ka=some ⟨b,off,none⟩∧p b∧NodeV w p n kids[j] cs∧ ∀i x,cs[i]? =some x→w.cell? ⟨b,off+j*12+i,none⟩=some x):=by
 obtain ⟨kv,sv,kcs,rfl,⟨a2,c2,rfl,h2⟩,⟨a,c,rfl,h3⟩,h4,h5⟩:=h
 dsimp only at h2 h4 h5 ⊢
 refine ⟨a,c,a2,c2,by rw[h4,strCells_len],fun j hj=>?_,fun j hj=>?_⟩
 ·obtain ⟨b,off,e1,e2,e3⟩:=h2 j (by rw[strCells_len];exact hj)
  rw[strCells_get _ _ hj] at e3
  exact ⟨b,off,e1,e2,e3 0 _ rfl,e3 1 _ rfl⟩
 ·obtain ⟨b,off,e1,e2,e3⟩:=h3 j (by omega)
  exact ⟨b,off,_,e1,e2,h5 j hj (by omega),e3⟩
theorem str_le_sum: ∀(l:List (ByteArray × ByteArray)) (s:ByteArray × ByteArray),s∈l→20+s.1.size+s.2.size≤(l.map fun s=>20+s.1.size+s.2.size).sum
 |[],_,h=>by cases h
 |x::l,s,h=>by
  rw[List.map_cons,List.sum_cons]
  rcases List.mem_cons.1 h with rfl|h
  ·omega
  ·have:=str_le_sum l s h;omega
theorem nf_bounds{n:Nat}{f:NF}{kids:List (NT n)}(hz:ntBytes (n+1) (f,kids)≤65536):f.name.size≤65536∧f.target.size≤65536∧f.data.size≤65536∧f.streams.length≤40000∧ ∀s∈f.streams,s.1.size≤65536∧s.2.size≤65536:=by
 have hb:ntBytes (n+1) (f,kids)=(20+f.name.size+f.data.size+f.target.size+(f.streams.map fun s=>20+s.1.size+s.2.size).sum)+(kids.map (ntBytes n)).sum:=rfl
 have hsl:20*f.streams.length≤(f.streams.map fun s=>20+s.1.size+s.2.size).sum:=by
  generalize f.streams=l
  induction l with
  |nil=>simp
  |cons x l ih=>simp only[List.map_cons,List.sum_cons,List.length_cons];omega
 refine ⟨by omega,by omega,by omega,by omega,fun s hs=>?_⟩
 have:=str_le_sum _ s hs
 omega
theorem kid_count{n:Nat}{f:NF}{kids:List (NT n)}{k:Nat}(hk:k<kids.length):ntCount n kids[k]≤ntCount (n+1) (f,kids):=by
 have h1:=sum_take (ntCount n) kids k hk
 have h2:=sum_take_le (ntCount n) kids (k+1)
 show _≤1+(kids.map (ntCount n)).sum
 omega
theorem kids_len{n:Nat}{f:NF}{kids:List (NT n)}(hc:ntCount (n+1) (f,kids)≤64):kids.length≤64:=by
 have h:1+(kids.map (ntCount n)).sum≤64:=hc
 have:=len_le_sum (ntCount n) (ntCount_pos n) kids
 omega
theorem r_check18: ∀(n:Nat) (t:NT n) (vs:List Value) (B:Nat) (w:World) (path:ByteArray) (l:Nat),NodeV w (· < B) n t vs→B≤w.heap.size→ntCount n t≤64→ntBytes n t≤65536→1≤l→l+n≤1000→path.size+n*70000≤1000000000→
 Calls Tryz.prog 300 #[.agg vs.toArray, .string path, .int .i64 (l:Int)] w fun e w'=> ∃(s:ByteArray) (m:Int),e= .returned (.tuple #[.string s, .int .i64 m])∧(m=0↔ntOK n t l=true)∧Below w.heap.size w w'
 |0,_,_,_,_,_,_,h,_,_,_,_,_,_=>h.elim
 |n+1,(f,kids),vs,B,w,path,l,h,hB,hc,hz,hl,hln,hp=>by
  obtain ⟨ka,kc,a,c,rfl,hs,hk⟩:=h.parts
  obtain ⟨z1,z2,z3,z4,z5⟩:=nf_bounds hz
  have hkl:=kids_len hc
  have hb1:=below_alloc1 w (.cells (nfCells f (.slice ka kids.length kc) (.slice a f.streams.length c)).toArray 25)
  have hnl:=kidNames_len n kids
  have HO:=hQ (fun (W:World) (hb:Below w.heap.size w W)=>r_one f ka a kc c l B (kidNames n kids) W (Nat.le_trans hB hb.size) hl z1 z2 (by omega) (by omega) z4 (fun s hs=>⟨(z5 s hs).1,by have:=(z5 s hs).2;omega⟩)
   (fun j hj=>by
     obtain ⟨b,off,e1,e2,e3,e4⟩:=hs j hj
     exact ⟨b,off,e1,e2,(hb.cell (Nat.lt_of_lt_of_le e2 hB)).trans e3,(hb.cell (Nat.lt_of_lt_of_le e2 hB)).trans e4⟩)
   (fun j hj=>by
     obtain ⟨b,off,cs,e1,e2,e3,e4⟩:=hk j (by omega)
     obtain ⟨_,_,_,_,_,_,rfl⟩:=e3.cellsF
     refine ⟨b,off,e1,e2,(hb.cell (Nat.lt_of_lt_of_le e2 hB)).trans ?_⟩
     rw[show (kidNames n kids)[j]=(ntF n (kids[j]'(by omega))).name by simp[kidNames]]
     exact e4 0 _ rfl))
  rw[hnl] at HO
  have HB0:=hQ (Box.new (ty:=25) w (nfCells f (.slice ka kids.length kc) (.slice a f.streams.length c)))
  have HOK:=hQ (ntOK_def n f kids l)
  have IH:=hQ (r_check18 n)
  have HK:=hQ hk
  have HC:=hQ hc
  have HZ:=hQ hz
  clear h hs hk hc hz hnl z1 z2 z3 z4 z5
  have hll:(l:Int)≤1000:=by omega
  generalize oneOK f (kidNames n kids) l=one at*
  unfold nfCells at HO hb1 ⊢
  go_enter Tryz.func300,Tryz.ntmps300
  go_wp2_with fail
  refine (HO.out _ hb1).mono ?_
  rintro e w1 ⟨m1,rfl,hm1,hb2⟩
  have hbw1:=hb1.trans (hb2.mono hb1.size)
  have hbox1:=HB0.out.step hb2
  have HM1:=hQ hm1
  clear hm1
  by_cases hm:m1=0
  rotate_left
  ·have hm':(m1 != 0)=true:=neB hm
   have HF:=hQ (show ntOK (n+1) (f,kids) l=false by
    rw[HOK.out]
    cases one with
    |true=>exact absurd (HM1.out.2 rfl) hm
    |false=>rfl)
   have HNE:=hQ hm
   clear hm HOK
   go_wp2
   go_ret2
   exact ⟨_,_,rfl,by rw[HF.out];exact ⟨fun h=>absurd h HNE.out,fun h=>by cases h⟩,hbw1⟩
  subst hm
  have HOK2:=hQ (show ntOK (n+1) (f,kids) l=kidsOK n kids (l+1) kids.length by rw[HOK.out,HM1.out.1 rfl];rfl)
  clear HOK HM1
  go_wp2_with fail
  go_loopw [9] (fun i wr=> ∃k:Nat,k≤kids.length∧i= .int .i64 k∧kidsOK n kids (l+1) k=true∧Below w.heap.size w wr∧Box 25 w.heap.size (nfCells f (.slice ka kids.length kc) (.slice a f.streams.length c)) wr) (fun i _=>kids.length-(intOf i).toNat)
  case atStart=>exact ⟨0,Nat.zero_le _,rfl,rfl,hbw1,hbox1⟩
  case round=>
   obtain ⟨k,hk,rfl,hok,hbw,hbox⟩:=hrel
   have c10:=hbox.cell 10 _ rfl
   by_cases hlt:k<kids.length
   ·have hi:(k:Int)<kids.length:=by omega
    obtain ⟨b,off,cs,rfl,hbB,hnode0,hcell⟩:=HK.out k hlt
    have hnode:=hnode0.below (hbw.mono hB)
    obtain ⟨a',a2',l',c',l2',c2',rfl⟩:=hnode.cellsF
    have hnm:=name_le_bytes n kids[k]
    have hcc:=Nat.le_trans (kid_count (f:=f) hlt) HC.out
    have hzz:=Nat.le_trans (kid_bytes (f:=f) hlt) HZ.out
    have HBL:=hQ (fun W:World=>r_below path (ntF n kids[k]).name l W (by omega) (by omega))
    have HSUM:=hQ (kidsOK_succ n kids (l+1) k hlt)
    rw[hok,Bool.true_and] at HSUM
    have HMONO:=hQ (kidsOK_mono n kids (l+1) (k+1))
    have hlw:((l+1:Nat):Int)=IntKind.i64.wrap ((l:Int)+1):=by rw[IntKind.wrap_i64];omega
    have HKID:=hQ (fun (W:World) (pp:ByteArray) (hW:Below wr.heap.size wr W) (hp':pp.size≤path.size+(ntF n kids[k]).name.size+1)=>IH.out kids[k] _ B W pp (l+1) (hnode.below (hW.mono (Nat.le_trans hB hbw.size))) (Nat.le_trans (Nat.le_trans hB hbw.size) hW.size) hcc hzz (by omega) (by omega) (by
     have e:(n+1)*70000=n*70000+70000:=by omega
     omega))
    rw[hlw] at HKID
    have hbb:b<w.heap.size:=Nat.lt_of_lt_of_le hbB hB
    have k0:=(hbw.cell hbb).trans (hcell 0 _ rfl)
    have k1:=(hbw.cell hbb).trans (hcell 1 _ rfl)
    have k2:=(hbw.cell hbb).trans (hcell 2 _ rfl)
    have k3:=(hbw.cell hbb).trans (hcell 3 _ rfl)
    have k4:=(hbw.cell hbb).trans (hcell 4 _ rfl)
    have k5:=(hbw.cell hbb).trans (hcell 5 _ rfl)
    have k6:=(hbw.cell hbb).trans (hcell 6 _ rfl)
    have k7:=(hbw.cell hbb).trans (hcell 7 _ rfl)
    have k8:=(hbw.cell hbb).trans (hcell 8 _ rfl)
    have k9:=(hbw.cell hbb).trans (hcell 9 _ rfl)
    have k10:=(hbw.cell hbb).trans (hcell 10 _ rfl)
    have k11:=(hbw.cell hbb).trans (hcell 11 _ rfl)
    rw[Nat.add_zero] at k0
    clear hnode hnode0 hcell hnm hcc hzz hlw hok hbb
    generalize ntF n kids[k]=f' at*
    generalize ntOK n kids[k] (l+1)=okk at*
    unfold nfCells at HKID
    go_upto_region 7 with (fail)
    go_region_with (first
     |(go_at_call 357;refine (HBL.out _).mono ?_;rintro e w5 ⟨⟨pp,rfl,hpp⟩,rfl⟩)
     |(go_at_call 300;refine (HKID.out _ pp (by first|exact Below.refl _ _|exact below_drew (Below.refl _ _)|exact below_drewN (Below.refl _ _) _) hpp).mono ?_;rintro e w6 ⟨s6,m6,rfl,hm6,hb6⟩))
    all_goals
     have hbwf:=hbw.trans (Below.mono (show Below wr.heap.size wr w6 from by first|exact hb6|exact (below_drew (Below.refl _ _)).trans hb6|exact (below_drewN (Below.refl _ _) _).trans hb6) hbw.size)
     have hboxf:=hbox.step (show Below wr.heap.size wr w6 from by first|exact hb6|exact (below_drew (Below.refl _ _)).trans hb6|exact (below_drewN (Below.refl _ _) _).trans hb6)
     clear k0 k1 k2 k3 k4 k5 k6 k7 k8 k9 k10 k11 hb6
     by_cases hm:m6=0
     ·subst hm
      have ho:=hm6.1 rfl
      rw[ho] at HSUM
      clear hm6
      go_wp2
      go_roundw
      case rel=>exact ⟨k+1,by omega,by go_num,HSUM.out,hbwf,hboxf⟩
      case measure=>simp[intOf];omega
     ·have hm':(m6 != 0)=true:=neB hm
      have ho:okk=false:=by
       cases okk with
       |true=>exact absurd (hm6.2 rfl) hm
       |false=>rfl
      rw[ho] at HSUM
      have HF:=hQ (show ntOK (n+1) (f,kids) l=false by rw[HOK2.out];exact HMONO.out HSUM.out)
      have HNE:=hQ hm
      clear hm hm6
      go_wp2
      go_ret2
      exact ⟨_,_,rfl,by rw[HF.out];exact ⟨fun h=>absurd h HNE.out,fun h=>by cases h⟩,hbwf⟩
   ·have hi:(kids.length:Int)≤k:=by omega
    have HT:=hQ (show ntOK (n+1) (f,kids) l=true by rw[HOK2.out,show kids.length=k by omega];exact hok)
    go_wp2
    go_ret2
    exact ⟨_,_,rfl,by rw[HT.out];decide,hbw⟩
noncomputable def treeOK(n:Nat)(t:NT n):Bool:=ntOK n t 1
theorem r_check43(n:Nat)(t:NT n)(vs:List Value)(B:Nat)(w:World)(h:NodeV w (· < B) n t vs)(hB:B≤w.heap.size)(hc:ntCount n t≤64)(hz:ntBytes n t≤65536)(hn:n≤900):
 Calls Tryz.prog 218 #[.agg vs.toArray] w fun e w'=> ∃(s:ByteArray) (m:Int),e= .returned (.tuple #[.string s, .int .i64 m])∧(m=0↔treeOK n t=true)∧Below w.heap.size w w':=by
 have HC:=hQ (fun (W:World) (hb:Below w.heap.size w W)=>r_count18 n t vs B W (h.below (hb.mono hB)) (Nat.le_trans hB hb.size) (by omega))
 have HCH:=hQ (fun (W:World) (hb:Below w.heap.size w W)=>r_check18 n t vs B W ⟨#[]⟩ 1 (h.below (hb.mono hB)) (Nat.le_trans hB hb.size) hc hz (Nat.le_refl _) (by omega) (by show 0+_≤_;omega))
 have HD:Hid (ntOK n t 1=treeOK n t):=rfl
 rw[HD.out] at HCH
 obtain ⟨f,a,a2,l,c,l2,c2,rfl⟩:=h.cells
 have HB0:=hQ (Box.new (ty:=25) w (nfCells f (.slice a l c) (.slice a2 l2 c2)))
 clear h HD
 generalize ntCount n t=cc at*
 generalize treeOK n t=ok at*
 have hb0:=below_alloc1 w (.cells (nfCells f (.slice a l c) (.slice a2 l2 c2)).toArray 25)
 unfold nfCells at HC HCH hb0 ⊢
 have hcc:(cc:Int)≤256:=by omega
 go_enter Tryz.func218,Tryz.ntmps218
 go_wp2_with fail
 refine (HC.out _ hb0).mono ?_
 rintro e w1 ⟨rfl,hb1⟩
 have hbw1:=hb0.trans (hb1.mono hb0.size)
 have hbox1:=HB0.out.step hb1
 obtain ⟨k0,k1,k2,k3,k4,k5,k6,k7,k8,k9,k10,k11⟩:=hbox1.all
 go_wp2_with fail
 refine (HCH.out _ hbw1).mono ?_
 rintro e w2 ⟨s,m,rfl,hm,hb2⟩
 clear k0 k1 k2 k3 k4 k5 k6 k7 k8 k9 k10 k11
 have HM:=hQ hm
 clear hm
 go_wp2
 go_ret2
 exact ⟨_,_,rfl,HM.out,hbw1.trans (hb2.mono hbw1.size)⟩
theorem r_valid18(n:Nat)(t:NT n)(vs:List Value)(B:Nat)(w:World)(h:NodeV w (· < B) n t vs)(hB:B≤w.heap.size)(hc:ntCount n t≤64)(hz:ntBytes n t≤65536)(hn:n≤900):
 Calls Tryz.prog 123 #[.agg vs.toArray] w fun e w'=>e= .returned (.bool (treeOK n t))∧Below w.heap.size w w':=by
 have HC:=hQ (fun (W:World) (hb:Below w.heap.size w W)=>r_check43 n t vs B W (h.below (hb.mono hB)) (Nat.le_trans hB hb.size) hc hz hn)
 obtain ⟨f,a,a2,l,c,l2,c2,rfl⟩:=h.cells
 clear h
 generalize treeOK n t=ok at*
 have hb0:=below_alloc1 w (.cells (nfCells f (.slice a l c) (.slice a2 l2 c2)).toArray 25)
 unfold nfCells at HC hb0 ⊢
 go_enter Tryz.func123,Tryz.ntmps123
 go_wp2_with fail
 refine (HC.out _ hb0).mono ?_
 rintro e w1 ⟨s,m,rfl,hm,hb1⟩
 by_cases h0:m=0
 ·subst h0
  have ho:=hm.1 rfl
  clear hm
  go_wp2
  go_ret
  exact ⟨ret_bool' ho.symm,hb0.trans (hb1.mono hb0.size)⟩
 ·have ho:ok=false:=by
   cases ok with
   |true=>exact absurd (hm.2 rfl) h0
   |false=>rfl
  have h0':=neB' h0
  clear h0 hm
  go_wp2
  go_ret
  exact ⟨ret_bool' ho.symm,hb0.trans (hb1.mono hb0.size)⟩
end Go.Proofs.YtbeccmkegckjjaaGreatDoor
end
section
namespace Go.Proofs.YtbeccmkegckjjaaGreatDoor
open Go.RowKit
set_option maxRecDepth 1000000
set_option maxHeartbeats 3200000
section
variable {P:Program}
theorem run_append_full(w:World)(base:Nat)(t ty e:TypeId)(i:TypeInfo)(z:Value)(size bytes:Nat)(ht:P.underlying t=some (.slice e))(hi:P.info? e=some i)(hz:i.zero=some z)
 (hsize:i.size=size) (hby:i.bytes=bytes) (hzs:z.cells.size=size)
 (b:Addr) (n:Nat) (xs:List Value) (hx:xs.length=n*size) (hold: ∀j u,xs[j]? =some u→w.cell? (b.add j)=some u)
 (a:Addr) (m c:Nat) (news:List Value) (hl:news.length=m*size) (hnews: ∀j u,news[j]? =some u→w.cell? (a.add j)=some u)
 (hm:0<m) (h63:n+m≤maxLen) (hbytes:(n+m)*bytes≤140737488355328) (hbase:base≤w.heap.size):
 ∃cap w',(Builtin.append_ #[t,t] ty #[.slice (some b) n n, .slice (some a) m c]).run P w= .ok (.slice (some ⟨w.heap.size,0,none⟩) (n+m) cap) w'∧
  w'.ownsRow base e size (.slice (some ⟨w.heap.size,0,none⟩) (n+m) cap) (n+m) (xs++news)∧w.grownBy w' none:=by
 subst hsize
 subst hby
 have hsmall:n+m≤9223372036854775807:=by simp only[maxLen] at h63;omega
 have hlen:(xs++news).length=(n+m)*i.size:=by rw[List.length_append,hx,hl,Nat.add_mul]
 have hge:=grownCap_ge w (n+m) n e
 have hcm:grownCap w (n+m) n e≤maxLen:=grownCap_le_maxLen w (n+m) n e h63
 have hr:=run_append_grow (P:=P) w t ty e i z ht hi hz b n n xs hx hold a m c news hl hnews (by omega) (by omega) (growslice_fits (by omega) hbytes)
 refine ⟨_,_,hr,⟨hlen, .inr ⟨w.heap.size,_,_,rfl,hbase,heap_alloc_new w.drew _,hge,hcm,?_,?_⟩⟩,⟨rfl,rfl,rfl,by simp,fun k hk hn=>(World.grownBy_alloc w.drew _ none).block k hk hn⟩⟩
 ·simp only[Array.size_append,List.size_toArray,size_zeroCells,hzs,hx,hl, ←Nat.add_mul]
  congr 1
  omega
 ·simp only[Array.toList_append,List.append_assoc]
  rw[←List.append_assoc, ←hlen]
  exact List.take_left
theorem step_append_full{ops:Array Oper}{o:Oper}{a:Act}{w:World}{K:Act→World→Prop}{Q:Exit→Act→World→Prop}{E:Prop}(hgd:o.guard=none)(s x:Operand)(t:TypeId)
 (ho:o.op= .call {callee:= .builtin .append,args:= #[s,x],argTypes:= #[t,t]})
 (base:Nat) (e:TypeId) (i:TypeInfo) (z:Value) (size bytes:Nat) (ht:P.underlying t=some (.slice e)) (hi:P.info? e=some i) (hz:i.zero=some z)
 (hsize:i.size=size) (hby:i.bytes=bytes) (hzs:z.cells.size=size)
 (b:Addr) (n:Nat) (xs:List Value) (hs:a.eval s= .slice (some b) n n) (hxl:xs.length=n*size) (hold: ∀j u,xs[j]? =some u→w.cell? (b.add j)=some u)
 (ad:Addr) (m c:Nat) (news:List Value) (hx:a.eval x= .slice (some ad) m c) (hl:news.length=m*size) (hnews: ∀j u,news[j]? =some u→w.cell? (ad.add j)=some u)
 (hm:0<m) (h63:n+m≤maxLen) (hbytes:(n+m)*bytes≤140737488355328) (hbase:base≤w.heap.size)
 (h: ∀cap w',w'.ownsRow base e size (.slice (some ⟨w.heap.size,0,none⟩) (n+m) cap) (n+m) (xs++news)→w.grownBy w' none→K (a.put o.dst (.slice (some ⟨w.heap.size,0,none⟩) (n+m) cap)) w'):
 if Region.wanted o (yielded ops a.tmps)=true then Oper.wp P o a w K Q else E:=by
 have hw:Region.wanted o (yielded ops a.tmps)=true:=by simp[Region.wanted,hgd]
 rw[if_pos hw]
 obtain ⟨cap,w',hr,h2,h3⟩:=run_append_full (P:=P) w base t o.type e i z size bytes ht hi hz hsize hby hzs b n xs hxl hold ad m c news hl hnews hm h63 hbytes hbase
 unfold Oper.wp execOp
 simp only[ho,resolve,invoke,builtin,Sem.run_bind,Sem.run_pure,Result.andThen_ok,List.map_toArray,List.map_cons,List.map_nil,hs,hx,hr]
 exact h cap w' h2 h3
theorem step_append_own{ops:Array Oper}{o:Oper}{a:Act}{w:World}{K:Act→World→Prop}{Q:Exit→Act→World→Prop}{E:Prop}(hgd:o.guard=none)(s x:Operand)(t:TypeId)
 (ho:o.op= .call {callee:= .builtin .append,args:= #[s,x],argTypes:= #[t,t]})
 (base:Nat) (e:TypeId) (i:TypeInfo) (z:Value) (size bytes:Nat) (ht:P.underlying t=some (.slice e)) (hi:P.info? e=some i) (hz:i.zero=some z)
 (hsize:i.size=size) (hby:i.bytes=bytes) (hzs:z.cells.size=size) (hsz:0<size)
 (v:Value) (n:Nat) (xs:List Value) (hs:a.eval s=v) (hown:w.ownsRow base e size v n xs)
 (ad:Addr) (m c:Nat) (news:List Value) (hx:a.eval x= .slice (some ad) m c) (hl:news.length=m*size) (hnews: ∀j u,news[j]? =some u→w.cell? (ad.add j)=some u) (h1: ∀u∈news,u.oneCell'=true)
 (h63:n+m≤maxLen) (hbytes:(n+m)*bytes≤140737488355328) (hbase:base≤w.heap.size)
 (h: ∀v' w',w'.ownsRow base e size v' (n+m) (xs++news)→w.grownBy w' v.ownBlock→K (a.put o.dst v') w'):
 if Region.wanted o (yielded ops a.tmps)=true then Oper.wp P o a w K Q else E:=by
 have hw:Region.wanted o (yielded ops a.tmps)=true:=by simp[Region.wanted,hgd]
 rw[if_pos hw]
 exact wp_append_own w s x t ho base e i z size bytes ht hi hz hsize hby hzs hsz v n xs hs hown ad m c news hx hl hnews h1 h63 hbytes hbase fun v' w' h2 h3 _=>h v' w' h2 h3
end
theorem less_irr(l:List UInt8):ltB l l=false:=by rw[ltB_tri];simp
theorem sortedTo_adj(l:List ByteArray)(k:Nat)(h:sortedTo l l.length=true)(hk:k+1<l.length):ltB (l[k]'(by omega)).data.toList l[k+1].data.toList=true:=by
 unfold sortedTo at h
 have:=List.all_eq_true.1 h k (by rw[List.mem_range];omega)
 rw[List.getD_eq_getElem?_getD,List.getD_eq_getElem?_getD,List.getElem?_eq_getElem (show k<l.length by omega),List.getElem?_eq_getElem hk] at this
 exact this
theorem below_drewAlloc(w:World)(n:Nat)(o:Obj):Below w.heap.size w ((w.drewN n).alloc o):=(below_drewN (Below.refl _ _) n).alloc (Nat.le_refl _) o
theorem alloc_size(w:World)(o:Obj):(w.alloc o).heap.size=w.heap.size+1:=by show (w.heap.push _).size=_;simp
theorem drewAlloc_size(w:World)(n:Nat)(o:Obj):((w.drewN n).alloc o).heap.size=w.heap.size+1:=alloc_size (w.drewN n) o
theorem own_cap{w:World}{base:Nat}{e:TypeId}{size:Nat}{g n cap:Nat}{xs:List Value}(h:w.ownsRow base e size (.slice (some ⟨g,0,none⟩) n cap) n xs):n≤cap∧g<w.heap.size:=by
 rcases h.2 with ⟨h0,_⟩|⟨g',cap',cur,h1,_,h3,h4,_⟩
 ·injection h0 with h0;cases h0
 ·injection h1 with h1 h2 h5
  injection h1 with h1
  injection h1 with h1
  subst h1 h5
  exact ⟨h4,(Array.getElem?_eq_some_iff.1 h3).1⟩
theorem r_order(a:Option Addr)(c B:Nat)(names:List ByteArray)(w:World)(hB:B≤w.heap.size)(hl:names.length≤64)(hs:sortedTo names names.length=true)
 (hrow: ∀j,(h:j<names.length)→ ∃b off,a=some ⟨b,off,none⟩∧b<B∧w.cell? ⟨b,off+j*12,none⟩=some (.string names[j])):
 Calls Tryz.prog 302 #[.slice a names.length c] w fun e w'=> ∃g cap:Nat,e= .returned (.slice (some ⟨g,0,none⟩) names.length cap)∧w'.ownsRow w.heap.size 3 1 (.slice (some ⟨g,0,none⟩) names.length cap) names.length (intsV (List.range names.length))∧Below w.heap.size w w':=by
 obtain ⟨i0,hi,hz0,hz1,hz2⟩:=info_parts info_int
 have HROW:=hQ hrow
 have HS:=hQ hs
 clear hrow hs
 go_enter Tryz.func302,Tryz.ntmps302
 go_wp2_with fail
 go_loopw [3,4,5] (fun out i _ wr=> ∃k g cap:Nat,k≤names.length∧i= .int .i64 k∧out= .slice (some ⟨g,0,none⟩) k cap∧wr.ownsRow w.heap.size 3 1 out k (intsV (List.range k))∧Below w.heap.size w wr) (fun _ i _ _=>names.length-(intOf i).toNat)
 case atStart=>exact ⟨0,w.heap.size,0,Nat.zero_le _,rfl,rfl,World.ownsRow_made w #[] 0 (Nat.le_refl _) (Nat.zero_le _) rfl,below_alloc1 _ _⟩
 case round=>
  obtain ⟨k,g,cap,hk,rfl,rfl,hown,hbw⟩:=hrel
  by_cases hlt:k<names.length
  ·have hi1:(k:Int)<names.length:=by omega
   go_wp2_with fail
   refine wp_loop_rounds 1 ?_
   rw[rounds_succ]
   cases k with
   |zero=>
    go_wp2_with fail
    go_quiet (fail)
    go_wp2_with fail
    have hc0:=own_cap hown
    have hc1:(0:Int)≤cap:=by omega
    have HOW:=hQ hown
    have HBW:=hQ hbw
    clear hown
    go_region_law (
     refine step_append_full rfl _ _ 34 rfl w.heap.size 3 i0 (.int .i64 0) 1 8 Tryz.underlying34 hi hz0 hz1 hz2 rfl ⟨g,0,none⟩ (0) (intsV (List.range (0))) rfl ?_ ?_ ⟨wr.heap.size,0,none⟩ 1 1 [.int .i64 0] rfl rfl ?_ ?_ ?_ ?_ ?_ ?_
     ·simp[intsV]
     ·exact (own_below' HOW.out (below_drewAlloc _ _ _)).cells rfl
     ·intro j u hj
      match j,hj with
      |0,hj=>simp at hj;subst hj;exact new_one _ _ _ _ rfl
     ·omega
     ·unfold maxLen;omega
     ·omega
     ·exact (HBW.out.trans ((below_drewAlloc _ _ _).mono HBW.out.size)).size
     intro cap2 w2 hown2 hgrow2)
    rw[drewAlloc_size] at hown2
    have hb2:=HBW.out.trans (((below_drewAlloc wr (nq+1) (.cells #[.int .i64 0] 3)).grown hgrow2 (below_drewAlloc _ _ _).size (fun j hj=>by cases hj)).mono HBW.out.size)
    go_wp2
    go_roundw
    case rel=>exact ⟨0+1,_,cap2,by omega,by go_num,rfl,by rw[List.range_succ,intsV_snoc];exact hown2,hb2⟩
    case measure=>simp[intOf];omega
   |succ m=>
    obtain ⟨b,off,rfl,hbB,hcell⟩:=HROW.out (m+1) hlt
    obtain ⟨b2,off2,hh,hbB2,hcell2⟩:=HROW.out m (by omega)
    injection hh with hh
    injection hh with hh1 hh2
    subst hh1 hh2
    have d0:=(hbw.cell (Nat.lt_of_lt_of_le hbB hB)).trans hcell
    have d1:=(hbw.cell (Nat.lt_of_lt_of_le hbB hB)).trans hcell2
    have dg:=hown.cellAt m (by omega)
    rw[intsV,List.getElem?_map,List.getElem?_range (by omega)] at dg
    have q:=less_str names[m] names[m+1]
    rw[sortedTo_adj names m HS.out hlt] at q
    have hm1:((m+1:Nat):Int)-1=m:=by omega
    have hm2:(0:Int)<((m+1:Nat):Int):=by omega
    have hm3:(m:Int)<names.length:=by omega
    have hm4:(m:Int)<((m+1:Nat):Int):=by omega
    clear hcell hcell2
    generalize names[m+1]=s1 at*
    generalize names[m]=s2 at*
    go_wp2_with fail
    go_quiet (fail)
    go_wp2_with fail
    have hc0:=own_cap hown
    have hc1:(m:Int)+1≤cap:=by omega
    have hm5:(0:Int)≤(m:Int)+1:=by omega
    by_cases hce:cap=m+1
    ·subst hce
     have HOW:=hQ hown
     have HBW:=hQ hbw
     clear hown
     go_region_law (
      refine step_append_full rfl _ _ 34 rfl w.heap.size 3 i0 (.int .i64 0) 1 8 Tryz.underlying34 hi hz0 hz1 hz2 rfl ⟨g,0,none⟩ (m+1) (intsV (List.range (m+1))) rfl ?_ ?_ ⟨wr.heap.size,0,none⟩ 1 1 [.int .i64 ((m:Int)+1)] rfl rfl ?_ ?_ ?_ ?_ ?_ ?_
      ·simp[intsV]
      ·exact (own_below' HOW.out (below_drewAlloc _ _ _)).cells rfl
      ·intro j u hj
       match j,hj with
       |0,hj=>simp at hj;subst hj;exact new_one _ _ _ _ rfl
      ·omega
      ·unfold maxLen;omega
      ·omega
      ·exact (HBW.out.trans ((below_drewAlloc _ _ _).mono HBW.out.size)).size
      intro cap2 w2 hown2 hgrow2)
     rw[drewAlloc_size] at hown2
     have hb2:=HBW.out.trans (((below_drewAlloc wr (nq+1) (.cells #[.int .i64 ((m:Int)+1)] 3)).grown hgrow2 (below_drewAlloc _ _ _).size (fun j hj=>by cases hj)).mono HBW.out.size)
     go_wp2
     go_roundw
     case rel=>exact ⟨m+1+1,_,cap2,by omega,by go_num,rfl,by rw[List.range_succ,intsV_snoc];exact hown2,hb2⟩
     case measure=>simp[intOf];omega
    ·have HOW:=hQ hown
     have HBW:=hQ hbw
     clear hown
     go_region_law (
      refine step_append_full rfl _ _ 34 rfl w.heap.size 3 i0 (.int .i64 0) 1 8 Tryz.underlying34 hi hz0 hz1 hz2 rfl ⟨g,0,none⟩ (m+1) (intsV (List.range (m+1))) rfl ?_ ?_ ⟨wr.heap.size,0,none⟩ 1 1 [.int .i64 ((m:Int)+1)] rfl rfl ?_ ?_ ?_ ?_ ?_ ?_
      ·simp[intsV]
      ·exact (own_below' HOW.out (below_drewAlloc _ _ _)).cells rfl
      ·intro j u hj
       match j,hj with
       |0,hj=>simp at hj;subst hj;exact new_one _ _ _ _ rfl
      ·omega
      ·unfold maxLen;omega
      ·omega
      ·exact (HBW.out.trans ((below_drewAlloc _ _ _).mono HBW.out.size)).size
      intro cap2 w2 hown2 hgrow2)
     rw[drewAlloc_size] at hown2
     have hb2:=HBW.out.trans (((below_drewAlloc wr (nq+1) (.cells #[.int .i64 ((m:Int)+1)] 3)).grown hgrow2 (below_drewAlloc _ _ _).size (fun j hj=>by cases hj)).mono HBW.out.size)
     go_wp2
     go_roundw
     case rel=>exact ⟨m+1+1,_,cap2,by omega,by go_num,rfl,by rw[List.range_succ,intsV_snoc];exact hown2,hb2⟩
     case measure=>simp[intOf];omega
  ·have hi1:(names.length:Int)≤k:=by omega
   have hk':k=names.length:=by omega
   subst hk'
   go_wp2
   go_ret
   exact ⟨_,_,rfl,hown,hbw⟩
end Go.Proofs.YtbeccmkegckjjaaGreatDoor
end
