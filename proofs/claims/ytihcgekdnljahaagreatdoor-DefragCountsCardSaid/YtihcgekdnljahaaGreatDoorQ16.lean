/- Law 54, DefragCounts: a part of the proof. -/
import Derived.Test.YtihcgekdnljahaaGreatDoorRows
import Derived.Test.YtihcgekdnljahaaGreatDoorQ10
import Derived.Test.YtihcgekdnljahaaGreatDoorQ12
import Derived.ProofKit
import Derived.SizedLaws
import Derived.OpenShut
import Derived.Carry
import Derived.ChangeSlices
import Derived.Lay
import Derived.LaidOnce
import Derived.SevenTiedAt
import Derived.Stop.Joined
import Derived.PinnedBridge
import Derived.ChangeShapes
import Derived.Deep.Slices
section
namespace Go.Proofs.YtihcgekdnljahaaGreatDoor
open Go.ChangeShapes Go.WideShapes Go.ChangeAt Go.WideMaps Go.WideElems Go.RowKit Go.Deep
set_option maxRecDepth 1000000 in
theorem readR:Tryz.prog.readableRec 22=true:=by kernel_rfl
theorem rowR:22<Tryz.prog.types.size:=of_decide_eq_true (by kernel_rfl)
set_option maxRecDepth 1000000 in
theorem contract{H:Type}{enc:TypeId × Value→H}(W:World)(base:Nat)(args:Array Value)(ds gs:List (DataW H))(before:List MemPlace)
 (hval0: ∀(j:Nat) t v,Tryz.f3.params[j]? =some t→args[j]? =some v→Value.okWide Tryz.prog W .any base t v)
 (hW:DataW.Whole enc Tryz.prog Tryz.f3.params.toList Rows.defragCountsSpec.vars false W args.toList ds gs before):
 Calls Tryz.prog 3 args W fun e W'=> ∃v,e= .returned v∧Rows.defragCountsSpec.post enc Tryz.prog Tryz.f3 false true false false W args v W':=by
 have hval: ∀(j:Nat) t v,Tryz.f3.params[j]? =some t→args[j]? =some v→Value.okWide Tryz.prog W .any base t v:=hval0
 have hW':=hW
 obtain ⟨p,q,hA0,hV,rfl,_,_⟩:=hW
 have hA:DataW.TrodAll enc Tryz.prog W 0 (fun _=>true) true Tryz.f3.params.toList args.toList ds p:=hA0
 rw[Tryz.params3] at hA hval
 obtain ⟨v0,d0,rfl,rfl,h0⟩:=trodAll_one hA
 obtain ⟨rfl,rfl⟩:=trodVars_none hV
 obtain ⟨a0,len,cap,rfl⟩:=okWide_slice Tryz.underlying22 (hval 0 22 v0 rfl rfl)
 have h0k:=h0
 obtain ⟨fuel,hf⟩:=h0
 clear hA0 hval0
 simp only[List.append_nil] at hW'
 have hlt: ∀x∈p,x.block<W.heap.size:=fun x hx=>by simpa using hW'.lt x hx
 obtain ⟨F,v,hcs,hR,hi,hs,hb⟩:=open_files hf
 obtain rfl:Value.slice a0 len cap=v:=by simpa[Value.cells] using hcs
 exact (law_any F _ W.heap.size W hR (Nat.le_refl _) hb hi hs).mono fun e W' ⟨he,hnx⟩=>⟨_,he,_,_,_,[],p,[],hW',trodAll_mk1 (shut_bool Tryz.underlying4 _),
  trodAll_mk1 (Below.trod laidOut readR rowR h0k hnx hlt),rfl,hnx.frame _,fun h=>by cases h⟩
theorem own:ownKnob Tryz.prog.godebug=none:=by kernel_rfl
theorem laidPlain:(Rows.defragCountsRow.laid.all fun x=>x.2.handleName?.isNone)=true:=by kernel_rfl
theorem noInit:Tryz.checked.prog.inits.idxOf? 3=none:=by kernel_rfl
abbrev zArgs:Array Value:= #[.slice none 0 0]
noncomputable abbrev wX(os:Os):World:=World.laidAll Tryz.prog os Rows.defragCountsRow.laid
theorem wOk(os:Os):Input.okWideB Tryz.prog ((wX os).forCall (fun _ _=>0) ⟨#[],zArgs,[]⟩) 3 ⟨#[],zArgs,[]⟩=true:=by kernel_rfl
theorem wPre(os:Os)(H:Type)(enc:TypeId × Value→H):Rows.defragCountsSpec.preB enc Tryz.prog Tryz.f3 [] false ((wX os).forCall (fun _ _=>0) ⟨#[],zArgs,[]⟩).memory zArgs 8=true:=by kernel_rfl
theorem wSized(os:Os)(H:Type)(enc:TypeId × Value→H):Rows.defragCountsSpec.sizedB enc Tryz.prog Tryz.f3 false ((wX os).forCall (fun _ _=>0) ⟨#[],zArgs,[]⟩).memory zArgs 8=true:=by kernel_rfl
set_option maxRecDepth 1000000 in
theorem wMet(os:Os):laidMet Tryz.prog Rows.defragCountsRow.laid ((wX os).forCall (fun _ _=>0) ⟨#[],zArgs,[]⟩).memory:=laidMet_laidAll _ (by kernel_rfl) (by kernel_rfl)
set_option maxRecDepth 100000 in
theorem lifted(os:Os)(started:os.Started)(H:Type)(enc:TypeId × Value→H):
 ReturnsInHanded {} Tryz.checked os 3 .any (fun w args=>(Rows.defragCountsSpec.pre enc Tryz.prog Tryz.f3 [] false w args∧laidMetH Tryz.prog Rows.defragCountsRow.laid w)∧sizedMet enc Tryz.prog Tryz.f3 (OpenSpec.ofChange Rows.defragCountsSpec) false w args)
  (Rows.defragCountsSpec.post enc Tryz.prog Tryz.f3 false true false false):=by
 refine returnsInHanded_of_change_and (C:=Tryz.checked) (X:=fun w _=>laidMetH Tryz.prog Rows.defragCountsRow.laid w) (fun _ _ _ hh h=>h.of_heap hh) own started noInit Tryz.func3
  (ChangeSpec.witness_shaped (enc:=enc) (C:=Tryz.checked) (os:=os) (X:=fun w _=>laidMetH Tryz.prog Rows.defragCountsRow.laid w) false (wX os) zArgs 8 (World.laidAll_os _ _ _)
    (World.shaped_of_ZipB (by kernel_rfl) (by kernel_rfl)) (wOk os) (wPre os H enc) (wSized os H enc)
    (by rw[MakeChecks.laidMetH_plain _ _ _ laidPlain];exact wMet os)) ?_
 intro W base args ds gs before hval0 hW _ _ _ _
 exact contract W base args ds gs before hval0 hW
end Go.Proofs.YtihcgekdnljahaaGreatDoor
end
