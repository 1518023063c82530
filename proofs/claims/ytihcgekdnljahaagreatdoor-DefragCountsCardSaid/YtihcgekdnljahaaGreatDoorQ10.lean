/- Law 54, DefragCounts: a part of the proof. -/
import Derived.Test.YtihcgekdnljahaaGreatDoorQ09
import Derived.Test.YtihcgekdnljahaaGreatDoorAwake
import Derived.ChangeArms
import Derived.ChangeShapes
import Derived.OpenShut
import Derived.Deep.Slices
section
namespace Go.Proofs.YtihcgekdnljahaaGreatDoor
open Go.RowKit Go.Lib
set_option maxRecDepth 1000000
set_option maxHeartbeats 6400000
theorem p_cost(F:List FileT)(v:Value)(B:Nat)(w:World)(hv:RowV w (· < B) v 3 (fileCells F))(hB:B≤w.heap.size)(hl:F.length≤1100)(hi:intsOK F)(hsz:sizesOK F):
 Calls Tryz.prog 5 #[v] w fun e w'=>e= .returned (.tuple #[.int .i64 (costRL F (allOf F)).1, .int .i64 (costRL F (allOf F)).2])∧Below w.heap.size w w':=
 p_cost_of F v B w (costRL F (allOf F)) hv hB hl (fun W u hW hu=>
  p_fcost F (allOf F) v u W.heap.size W ((hv.below (hW.mono hB)).frame fun _ hb=>⟨Nat.lt_of_lt_of_le hb (Nat.le_trans hB hW.size),fun _=>rfl⟩) hu (Nat.le_refl _) hl (allOf_len F) (fun _ hp=>hasF_all hp) hi hsz)
theorem lines_cells{w:World}{base g c:Nat}{L:List ByteArray}(h:w.ownsRow base 9 1 (.slice (some ⟨g,0,none⟩) L.length c) L.length (strsV L)): ∀j,j<L.length→w.cell? ⟨g,0+j,none⟩=some (.string (L.getD j ByteArray.empty)):=fun j hj=>by
 rw[Nat.zero_add,h.cellAt j (by omega),strsV,List.getElem?_map,List.getElem?_eq_getElem hj,List.getD_eq_getElem?_getD,List.getElem?_eq_getElem hj]
 rfl
theorem eq_lists{w:World}{b1 b2:Nat}{o1 o2:Value}{L:List ByteArray}(h1:w.ownsRow b1 9 1 o1 L.length (strsV L))(h2:w.ownsRow b2 9 1 o2 L.length (strsV L))(hl:L.length≤1100):
 Calls Tryz.prog 7 #[o1,o2] w fun e w'=>e= .returned (.bool true)∧Below w.heap.size w w':=by
 by_cases hp:0<L.length
 ·rcases h1.2 with ⟨_,h0⟩|⟨g1,c1,_,rfl,_⟩
  ·omega
  rcases h2.2 with ⟨_,h0⟩|⟨g2,c2,_,rfl,_⟩
  ·omega
  refine (Tryz.slices_Equal_string g1 0 L.length c1 g2 0 L.length c2 L L w (Nat.le_refl _) (Nat.le_refl _) (by omega) (by omega) (lines_cells h1) (lines_cells h2)).mono ?_
  rintro e w' ⟨rfl,q,rfl⟩
  exact ⟨by simp,below_drewN' (Below.refl _ _) q⟩
 ·obtain ⟨a1,c1,rfl⟩:=own_slice h1
  obtain ⟨a2,c2,rfl⟩:=own_slice h2
  have h0:L.length=0:=by omega
  rw[h0]
  refine (Tryz.slices_Equal_string_empty a1 a2 c1 0 c2 w (by omega)).mono ?_
  rintro e w' ⟨rfl,rfl⟩
  exact ⟨by simp,Below.refl _ _⟩
theorem fragOf_len(F:List FileT):(fragOf F).length≤F.length:=Nat.le_trans (List.length_filter_le _ _) (pathsOf_len F)
theorem law_any(F:List FileT)(v:Value)(B:Nat)(w:World)(hv:RowV w (· < B) v 3 (fileCells F))(hB:B≤w.heap.size)(hbig:F.length≤9223372036854775807)(hi:intsOK F)(hsz:sizesOK F):
 Calls Tryz.prog 3 #[v] w fun e w'=>e= .returned (.bool true)∧Below w.heap.size w w':=by
 have HA:=hQ (fun W:World=>awake_calls W (fun x hx=>(by cases hx)))
 by_cases hl:F.length≤1100
 ·have HV:=hQ (show ∀W,Below w.heap.size w W→RowV W (· < B) v 3 (fileCells F) from fun W h=>hv.below (h.mono hB))
  have HS:=hQ (show ∀W,Below w.heap.size w W→B≤W.heap.size from fun W h=>Nat.le_trans hB h.size)
  have H1:=hQ (fun (W:World) (h:Below w.heap.size w W)=>p_cost F v B W (HV.out W h) (HS.out W h) hl hi hsz)
  have H2:=hQ (fun (W:World) (h:Below w.heap.size w W)=>r_cost54 F v B W (HV.out W h) (HS.out W h) hl hi)
  have H3:=hQ (fun (W:World) (h:Below w.heap.size w W)=>p_fragmented F v B W (HV.out W h) (HS.out W h) hl hsz)
  have H4:=hQ (fun (W:World) (h:Below w.heap.size w W)=>r_fragmented F v B W (HV.out W h) (HS.out W h) hl)
  have H5:=hQ (fun (W:World) (h:Below w.heap.size w W)=>p_fragments F v B W (HV.out W h) (HS.out W h) hl hsz)
  have H6:=hQ (fun (W:World) (h:Below w.heap.size w W)=>r_fragments F v B W (HV.out W h) (HS.out W h) hl)
  have HFL:=hQ (Nat.le_trans (fragOf_len F) hl)
  have hl':((F.length:Nat):Int)≤1100:=by omega
  obtain ⟨a,c,rfl, -⟩:=file_rows hv
  generalize costRL F (allOf F)=r at*
  generalize fragsOf F=fr at*
  generalize fragOf F=fo at*
  clear hv hB hi hsz hl HV HS hbig
  go_enter Tryz.func3,Tryz.ntmps3
  go_wp2_with (first
   |(go_at_call 4;refine (HA.out _).mono ?_;rintro e w1 ⟨rfl,hb1⟩;have HB1:=hQ hb1;clear hb1)
   |(go_at_call 5;refine (H1.out _ HB1.out).mono ?_;rintro e w2 ⟨rfl,hb2⟩;have HB2:=hQ (HB1.out.trans (hb2.mono HB1.out.size));clear hb2)
   |(go_at_call 6;refine (H2.out _ HB2.out).mono ?_;rintro e w3 ⟨rfl,hb3⟩;have HB3:=hQ (HB2.out.trans (hb3.mono HB2.out.size));clear hb3)
   |(go_at_call 8;refine (H3.out _ HB3.out).mono ?_;rintro e w4 ⟨o1,rfl,hown4,hb4⟩;have HB4:=hQ (HB3.out.trans (hb4.mono HB3.out.size));have HO4:=hQ hown4;clear hb4 hown4)
   |(go_at_call 9;refine (H4.out _ HB4.out).mono ?_;rintro e w5 ⟨o2,rfl,hown5,hb5⟩;have HB5:=hQ (HB4.out.trans (hb5.mono HB4.out.size));have HO5:=hQ hown5;have HP5:=hQ (own_below' HO4.out hb5);clear hb5 hown5)
   |(go_at_call 7;refine (eq_lists HP5.out HO5.out HFL.out).mono ?_;rintro e w6 ⟨rfl,hb6⟩;have HB6:=hQ (HB5.out.trans (hb6.mono HB5.out.size));clear hb6)
   |(go_at_call 10;refine (H5.out _ HB6.out).mono ?_;rintro e w7 ⟨rfl,hb7⟩;have HB7:=hQ (HB6.out.trans (hb7.mono HB6.out.size));clear hb7)
   |(go_at_call 11;refine (H6.out _ HB7.out).mono ?_;rintro e w8 ⟨rfl,hb8⟩;have HB8:=hQ (HB7.out.trans (hb8.mono HB7.out.size));clear hb8)
   |go_in)
  go_ret
  exact ⟨rfl,HB8.out⟩
 ·have hl':(1100:Int)<((F.length:Nat):Int):=by omega
  have hb':((F.length:Nat):Int)≤9223372036854775807:=by omega
  obtain ⟨a,c,rfl, -⟩:=file_rows hv
  clear hv hB hi hsz hl
  go_enter Tryz.func3,Tryz.ntmps3
  go_wp2_with (first
   |(go_at_call 4;refine (HA.out _).mono ?_;rintro e w1 ⟨rfl,hb1⟩;have HB1:=hQ hb1;clear hb1)
   |go_in)
  go_ret
  exact ⟨rfl,HB1.out⟩
end Go.Proofs.YtihcgekdnljahaaGreatDoor
end
section
namespace Go.Proofs.YtihcgekdnljahaaGreatDoor
open Go.RowKit Go.ChangeShapes Go.WideShapes Go.Deep
set_option maxRecDepth 1000000
set_option maxHeartbeats 3200000
theorem cellsFile:Tryz.prog.cellsOf 33=3:=by kernel_rfl
theorem cellsStr:Tryz.prog.cellsOf 9=1:=by kernel_rfl
theorem cellsInt:Tryz.prog.cellsOf 3=1:=by kernel_rfl
theorem one_of_cells{cs:List Value}{i:Nat}{v:Value}(h:(cs.drop i).take 1=[v]):cs[i]? =some v:=by
 have h1:((cs.drop i).take 1)[0]? =some v:=by rw[h];rfl
 rw[List.getElem?_take,if_pos (by omega),List.getElem?_drop,Nat.add_zero] at h1
 exact h1
section
variable {H:Type} {enc:TypeId × Value→H} {w:World} {base:Nat} {spare:Nat→Bool} {held:Bool}
theorem open_row{α:Type}[Inhabited α]{t e:TypeId}{m fuel:Nat}{cs:List Value}{x:DataW H × List MemPlace}(cells:α→List Value)(Q:α→Prop)(ht:Tryz.prog.underlying t=some (.slice e))(ce:Tryz.prog.cellsOf e=m)(hlen: ∀a,(cells a).length=m)(hm:0<m)
 (elem: ∀n cs' y,DataW.trod enc Tryz.prog w base spare held n e cs'=some y→ ∃a,cs'=cells a∧Q a) (h:DataW.trod enc Tryz.prog w base spare held fuel t cs=some x):
 ∃(l:List α) (a:Option Addr) (c:Nat),cs=[.slice a l.length c]∧RowV w (· < w.heap.size) (.slice a l.length c) m (l.map cells)∧(∀d∈l,Q d)∧l.length≤9223372036854775807:=by
 rcases DataW.trod_slice ht h with ⟨rfl,rfl⟩|⟨a,len,cap,elems,rest,n,rfl,rfl,rfl,hb,hl,hmx,hlen',hel, -, -⟩
 ·exact ⟨[],none,0,rfl,⟨none,0,rfl,fun k hk=>by simp at hk⟩,fun d hd=>(by cases hd),by simp⟩
 ·have each: ∀k,k<len→ ∃q:α,(∀j v,(cells q)[j]? =some v→w.cell? (a.add (k*m+j))=some v)∧Q q:=fun k hk=>by
   have h1:=hel k hk
   rw[ce,List.getElem?_eq_getElem (by omega)] at h1
   rcases hcs:w.cells? base (a.add (k*m)) m with _|cs'
   ·rw[hcs] at h1;cases h1
   ·rw[hcs] at h1
    obtain ⟨-,h3,h4⟩:=World.cells?_some hcs
    obtain ⟨q,hq,hQ⟩:=elem n cs' _ h1
    refine ⟨q,fun j v hj=>?_,hQ⟩
    have hjm:j<m:=by rw[←hlen q];exact (List.getElem?_eq_some_iff.1 hj).1
    have:=h4 j hjm
    rw[add_add] at this
    rw[this,hq]
    exact hj
  obtain ⟨S,hS⟩:=choose_lt each
  have hL:((List.range len).map S).length=len:=by simp
  refine ⟨(List.range len).map S,some a,cap,by rw[hL],?_,fun d hd=>?_,by rw[hL];unfold maxLen at hmx;omega⟩
  ·refine ⟨some a,cap,by simp,fun k hk=>?_⟩
   have hk':k<len:=by simpa using hk
   have hg:((List.range len).map S |>.map cells)[k]=cells (S k):=by simp
   obtain ⟨q1,_⟩:=hS k hk'
   have hm0: ∃v0,(cells (S k))[0]? =some v0:=⟨_,List.getElem?_eq_getElem (by rw[hlen];exact hm)⟩
   obtain ⟨v0,hv0⟩:=hm0
   obtain ⟨b,off,spot⟩:=a
   have hs:spot=none:=by
    obtain ⟨v00,hv00⟩: ∃v0,(cells (S 0))[0]? =some v0:=⟨_,List.getElem?_eq_getElem (by rw[hlen];exact hm)⟩
    have:=World.cell?_spot ((hS 0 (by omega)).1 0 v00 hv00)
    simpa[Addr.add] using this
   subst hs
   have ha: ∀m,(⟨b,off,none⟩:Addr).add m=⟨b,off+m,none⟩:=fun m=>by unfold Addr.add;split <;> simp_all
   refine ⟨b,off,rfl,?_,fun j v hj=>?_⟩
   ·have:=q1 0 v0 hv0
    rw[ha] at this
    exact World.block_lt_of_cell? _ _ this
   ·rw[hg] at hj
    have:=q1 j v hj
    rw[ha] at this
    rw[Nat.add_assoc]
    exact this
  ·obtain ⟨k,hk,rfl⟩:=List.mem_map.1 hd
   exact (hS k (List.mem_range.1 hk)).2
theorem int_of_wf{n:Int}(h:(Lit.int .i64 n).wf=true):isInt n:=by
 have h1:IntKind.i64.min≤n∧n≤9223372036854775807:=by simpa[Lit.wf] using h
 have h2:IntKind.i64.min= -9223372036854775808:=by decide
 rw[h2] at h1
 exact h1
theorem open_int{fuel:Nat}{cs:List Value}{x:DataW H × List MemPlace}{i:Nat}(h:DataW.trod enc Tryz.prog w base spare held fuel 3 ((cs.drop i).take 1)=some x): ∃n,cs[i]? =some (.int .i64 n)∧isInt n:=by
 obtain ⟨n,h1,_,h3⟩:=DataW.trod_int Tryz.underlying3 h
 exact ⟨n,one_of_cells h1,int_of_wf h3⟩
theorem open_str{fuel:Nat}{cs:List Value}{x:DataW H × List MemPlace}{i:Nat}(h:DataW.trod enc Tryz.prog w base spare held fuel 9 ((cs.drop i).take 1)=some x): ∃s:ByteArray,cs[i]? =some (.string s)∧s.size≤maxLen:=by
 obtain ⟨s,h1,_,h3⟩:=DataW.trod_string Tryz.underlying9 h
 exact ⟨s,one_of_cells h1,h3⟩
theorem open_file(n:Nat)(cs:List Value)(y:DataW H × List MemPlace)(h:DataW.trod enc Tryz.prog w base spare held n 33 cs=some y):
 ∃a:FileT,cs=[.string a.1, .int .i64 a.2.1, .int .i64 a.2.2]∧(isInt a.2.1∧isInt a.2.2∧a.1.size≤maxLen):=by
 obtain ⟨xs,k,rfl,_,hl,hx,hf⟩:=DataW.trod_struct Tryz.underlying33 h
 have g0:DataW.trod enc Tryz.prog w base spare held k 9 ((cs.drop 0).take (Tryz.prog.cellsOf 9))=xs[0]? :=hf 0 _ rfl
 have g1:DataW.trod enc Tryz.prog w base spare held k 3 ((cs.drop 1).take (Tryz.prog.cellsOf 3))=xs[1]? :=hf 1 _ rfl
 have g2:DataW.trod enc Tryz.prog w base spare held k 3 ((cs.drop 2).take (Tryz.prog.cellsOf 3))=xs[2]? :=hf 2 _ rfl
 rw[cellsInt] at g1 g2
 rw[cellsStr] at g0
 rw[cellsFile] at hl
 match xs,hx,cs,hl with
 |[y0,y1,y2],_,[v0,v1,v2],_=>
  obtain ⟨a,e0,z0⟩:=open_str (show _=some y0 from g0)
  obtain ⟨b,e1,w1⟩:=open_int (show _=some y1 from g1)
  obtain ⟨c,e2,w2⟩:=open_int (show _=some y2 from g2)
  exact ⟨(a,b,c),by simp at e0 e1 e2;rw[e0,e1,e2],w1,w2,z0⟩
theorem open_files{fuel:Nat}{cs:List Value}{x:DataW H × List MemPlace}(h:DataW.trod enc Tryz.prog w base spare held fuel 22 cs=some x):
 ∃(F:List FileT) (v:Value),cs=[v]∧RowV w (· < w.heap.size) v 3 (fileCells F)∧intsOK F∧sizesOK F∧F.length≤9223372036854775807:=by
 obtain ⟨l,a,c,e,r,q,z⟩:=open_row (fun d:FileT=>[.string d.1, .int .i64 d.2.1, .int .i64 d.2.2]) (fun a=>isInt a.2.1∧isInt a.2.2∧a.1.size≤maxLen) Tryz.underlying22 cellsFile (fun _=>rfl) (by omega) open_file h
 exact ⟨l,_,e,r,fun f hf=>⟨(q f hf).1,(q f hf).2.1⟩,fun f hf=>(q f hf).2.2,z⟩
end
end Go.Proofs.YtihcgekdnljahaaGreatDoor
end
