/- Law 43, UdfbuildSizes: a part of the proof. -/
import Derived.Test.YtbeccmkegckjjaaGreatDoorQ20
set_option linter.unusedVariables false
set_option linter.ambiguousOpen false
set_option linter.unusedSimpArgs false
section
namespace Go.Proofs.YtbeccmkegckjjaaGreatDoor
open Go.RowKit
set_option maxRecDepth 1000000
set_option maxHeartbeats 12800000
theorem results_cell2{P:Program}{fn:Func}{p u:Tmp}{ty:TypeId}(h:fn.results= #[.cell p ty, .tmp u])(tmps:Array Value)(w:World)(g:Nat)(t:TypeId)(cs:Array Value)(fr:Nat × Nat)(d:TypeDesc)
 (hp:tmps.getD p undef= .pointer (some ⟨g,0,none⟩)) (hg:w.heap[g]? =some (.cells cs t fr))
 (hu:P.underlying ty=some d) (hd:(match d with| .struct _| .array _ _=>true|_=>false)=true) (hi:(P.info? ty).map (·.size)=some cs.size):
 (results fn tmps).run P w= .ok (.tuple #[.agg cs,tmps.getD u undef]) w:=by
 have hp':tmps[p]?.getD undef= .pointer (some ⟨g,0,none⟩):=by simpa using hp
 simp[results,h,hp',asAddr,run_loadVar_row w g t ty cs fr d hg hu hd hi]
theorem nodeZ_one:nodeZ.all (·.oneCell')=true:=node_one ⟨⟨#[]⟩,0,⟨#[]⟩,⟨#[]⟩,0,0,0,0,0,0,[]⟩ none none 0 0 0 0
theorem name_root{n:Nat}{t:NT n}(h:ntOK n t 1=true):(ntF n t).name=⟨#[]⟩:=by
 cases n with
 |zero=>exact nomatch t
 |succ n=>
  have h1:=(oneOK_parts (ntOK_parts h).1).1
  unfold okName at h1
  rw[if_pos rfl] at h1
  simp at h1
  exact h1
theorem r_view19(n:Nat)(t:NT n)(vs:List Value)(B:Nat)(w:World)(h:NodeV w (· < B) n t vs)(hB:B≤w.heap.size)(hc:ntCount n t≤64)(hz:ntBytes n t≤65536)(hn:n≤900):
 Calls Tryz.prog 49 #[.int .i64 3, .agg vs.toArray] w fun e w'=>(treeOK n t=true→ ∃vs':List Value,e= .returned (.tuple #[.agg vs'.toArray, .int .i64 0])∧NodeV w' (Fr w.heap.size w') n (ntView n t) vs')∧(treeOK n t=false→e= .returned (.tuple #[.agg nodeZ, .int .i64 1]))∧Below w.heap.size w w':=by
 obtain ⟨a,a2,l,c,l2,c2,rfl⟩:=h.cellsF
 have HV:=hQ (fun (W:World) (hb:Below w.heap.size w W)=>r_valid18 n t _ B W (h.below (hb.mono hB)) (Nat.le_trans hB hb.size) hc hz hn)
 have HT:=hQ (show ∀(W:World) (s:ByteArray),s=(ntF n t).name→Below w.heap.size w W→treeOK n t=true→Calls Tryz.prog 124 #[.int .i64 3, .agg (nfCells (ntF n t) (.slice a l c) (.slice a2 l2 c2)).toArray, .string s, .int .i64 1] W fun e w'=> ∃vs':List Value,e= .returned (.agg vs'.toArray)∧NodeV w' (Fr W.heap.size w') n (ntView n t) vs'∧Below W.heap.size W w' from
  fun W s hs hb hk=>by rw[hs];exact r_tree19 n t _ B W 1 (h.below (hb.mono hB)) (Nat.le_trans hB hb.size) hk hc hz (Nat.le_refl _) (by omega))
 have HNM:=hQ (fun hk:treeOK n t=true=>name_root hk)
 have HE:=hQ (fun W:World=>r_exists W)
 have HB0:=hQ (Box.new (ty:=25) w (nfCells (ntF n t) (.slice a l c) (.slice a2 l2 c2)))
 have hb1:=below_alloc1 w (.cells (nfCells (ntF n t) (.slice a l c) (.slice a2 l2 c2)).toArray 25)
 clear h hc hz
 generalize treeOK n t=ok at*
 generalize hf:ntF n t=f at*
 clear hf
 unfold nfCells at HB0 hb1 HV HT ⊢
 go_enter Tryz.func49,Tryz.ntmps49
 go_upto_region 1 with (fail)
 have hbZ:=hb1.alloc hb1.size (.cells nodeZ 25)
 have HBA:=hQ (HB0.out.step (below_alloc1 _ (.cells nodeZ 25)))
 have HBR:=hQ (show Box 25 (w.heap.size+1) nodeZ.toList _ from by
  have h:=Box.new (ty:=25) (w.alloc (.cells #[.string f.name, .int .i64 f.kind, .string f.data, .string f.target, .int .i64 f.mode, .int .i64 f.uid, .int .i64 f.gid, .int .i64 f.time, .int .i64 f.weight, .int .i64 f.hidden, .slice a l c, .slice a2 l2 c2] 25)) nodeZ.toList
  rw[alloc_size] at h
  exact h)
 unfold nodeZ at hbZ HBA HBR
 generalize (w.alloc _).alloc _=w2 at*
 have hboxA:Box 25 w.heap.size (nfCells f (.slice a l c) (.slice a2 l2 c2)) w2:=HBA.out
 have hboxR:Box 25 (w.heap.size+1) nodeZ.toList w2:=HBR.out
 clear HBA HBR HB0 hb1
 have hbU:=hboxA
 unfold nfCells at hbU
 go_wp2_with (first
  |(go_at_call 122;refine (HE.out _).mono ?_;rintro e w5 ⟨rfl,rfl⟩)
  |(refine wpList_load_row rfl _ _ rfl w.heap.size _ _ _ rfl hbU Tryz.underlying25 rfl 12 node_size rfl ?_)
  |fail)
 refine (HV.out _ hbZ).mono ?_
 rintro e w3 ⟨rfl,hb3⟩
 have hboxA3:=hboxA.step hb3
 have hboxR3:=hboxR.step hb3
 have hbw3:=hbZ.trans (hb3.mono hbZ.size)
 clear hboxA hboxR hbU hbZ hb3
 have hbU:=hboxA3
 unfold nfCells at hbU
 have hbR:=hboxR3
 unfold nodeZ at hbR
 cases ok
 ·have hboxF:=hboxR3.setRow nodeZ.toList
  have hkF:=Kp.setRow w3 (w.heap.size+1) nodeZ.toList.toArray
  go_wp2_with (first
   |(refine wpList_store_row rfl _ _ _ rfl (w.heap.size+1) _ _ nodeZ rfl rfl hboxR3 12 node_size rfl rfl nodeZ_one ?_)
   |go_in)
  refine bodyPost_ret (v:= .tuple #[.agg nodeZ, .int .i64 1]) (results_cell2 (g:=w.heap.size+1) (t:=25) (cs:=nodeZ) Tryz.results49 _ _ _ _ rfl hboxF Tryz.underlying25 rfl node_size) rfl ?_
  have hf:=hbw3.trans (hkF.below (fun b hb=>by omega) hbw3.size)
  first
   |exact ⟨fun h=>by cases h,fun _=>rfl,hf⟩
   |exact ⟨fun h=>by cases h,rfl,hf⟩
   |exact ⟨rfl,hf⟩
 ·have HT3:=hQ (HT.out w3 ⟨#[]⟩ (HNM.out rfl).symm hbw3 rfl)
  go_wp2_with (first
   |(refine wpList_load_row rfl _ _ rfl w.heap.size _ _ _ rfl hbU Tryz.underlying25 rfl 12 node_size rfl ?_)
   |fail)
  refine (HT3.out).mono ?_
  rintro e w5 ⟨vs',rfl,hn5,hb5⟩
  obtain ⟨b1,b2,d1,e1,d2,e2,rfl⟩:=hn5.cellsF
  have hboxR5:=hboxR3.step hb5
  have hbw5:=hbw3.trans (hb5.mono hbw3.size)
  have hboxF:=hboxR5.setRow (nfCells (ntF n (ntView n t)) (.slice b1 d1 e1) (.slice b2 d2 e2))
  have hkF:=Kp.setRow w5 (w.heap.size+1) (nfCells (ntF n (ntView n t)) (.slice b1 d1 e1) (.slice b2 d2 e2)).toArray
  have hlt3:=hboxR3.lt
  go_wp2_with (first
   |(refine wpList_store_row rfl _ _ _ rfl (w.heap.size+1) _ _ (nfCells (ntF n (ntView n t)) (.slice b1 d1 e1) (.slice b2 d2 e2)).toArray rfl rfl hboxR5 12 node_size rfl rfl (node_one _ _ _ _ _ _ _) ?_)
   |go_in)
  have hn9:=(hn5.fr_kp hkF (fun b hb=>by omega)).fr_base hbw3.size
  have hf:=hbw5.trans (hkF.below (fun b hb=>by omega) hbw5.size)
  refine bodyPost_ret (v:= .tuple #[.agg (nfCells (ntF n (ntView n t)) (.slice b1 d1 e1) (.slice b2 d2 e2)).toArray, .int .i64 0]) (results_cell2 (g:=w.heap.size+1) (t:=25) (cs:=(nfCells (ntF n (ntView n t)) (.slice b1 d1 e1) (.slice b2 d2 e2)).toArray) Tryz.results49 _ _ _ _ rfl hboxF Tryz.underlying25 rfl node_size) rfl ?_
  first
   |exact ⟨fun _=>⟨_,rfl,hn9⟩,fun h=>by cases h,hf⟩
   |exact ⟨⟨_,rfl,hn9⟩,fun h=>by cases h,hf⟩
   |exact ⟨⟨_,rfl,hn9⟩,hf⟩
end Go.Proofs.YtbeccmkegckjjaaGreatDoor
end
