/- Law 58, VerifierLines: the program's lists of the texts of differences and of losses; whether a report is sound, on both sides; the words of the views. Conditions: as each theorem says. -/
import Derived.Test.YtdjdiiibcocmpaaGreatDoorVa
import Derived.Test.YtdjdiiibcocmpaaGreatDoorShelf
/- Law 58, VerifierLines: the program's decimal numerals and its list of the texts of losses. Conditions: the table of powers of ten; at most 100 losses, paths of at most 500 bytes, numbers that are ints. -/
namespace Go.Proofs.YtdjdiiibcocmpaaGreatDoor
open Go.RowKit Go.Lib
set_option maxRecDepth 1000000
set_option maxHeartbeats 6400000
/-- The program's table of powers of ten lies in the world. -/
def TabW (w : World) : Prop := Lib.TabIs Tryz.prog w "internal/strconv.uint64pow10" .u64 Lib.pow10Tab
theorem TabW.step {w w' : World} (h : TabW w) (hb : Below w.heap.size w w') : TabW w' := by
  unfold TabW Lib.TabIs World.var? at h ⊢
  cases hg : Tryz.prog.globalNamed "internal/strconv.uint64pow10" with
  | none => rw [hg] at h; cases h
  | some g =>
    rw [hg] at h
    have hlt : g < w.heap.size := by
      rcases Nat.lt_or_ge g w.heap.size with h1 | h1
      · exact h1
      · have e : w.heap[g]? = none := Array.getElem?_eq_none h1
        simp only [Option.bind_some, e] at h
        cases h
    simp only [Option.bind_some, hb.block g hlt]
    exact h
theorem below_grow (w : World) (q : Nat) (os : Array Obj) : Below w.heap.size w (Sort.grow (w.drewN q) os) :=
  ⟨rfl, rfl, rfl, by simp [Sort.grow], fun i hi => by
    show ((w.drewN q).heap ++ os)[i]? = _
    rw [Array.getElem?_append_left (by show i < w.heap.size; omega)]
    rfl⟩
theorem p_itoa (n : Int) (h : isInt n) (w : World) (hT : TabW w) : Calls Tryz.prog 36 #[.int .i64 n] w fun e w' => e = .returned (.string ⟨(itoa n).toArray⟩) ∧ Below w.heap.size w w' :=
  (Tryz.strconv_Itoa n h.1 h.2 w hT).mono fun e w' ⟨h1, k, os, h2⟩ => ⟨h1, by rw [h2]; exact below_grow w k os⟩
/-- A struct in a block of its own. -/
def Box (ty : TypeId) (g : Nat) (vs : List Value) (wx : World) : Prop := wx.heap[g]? = some (.cells vs.toArray ty (0, 0))
theorem Box.lt {ty : TypeId} {g : Nat} {vs : List Value} {wx : World} (h : Box ty g vs wx) : g < wx.heap.size := (Array.getElem?_eq_some_iff.1 h).1
theorem Box.cell {ty : TypeId} {g : Nat} {vs : List Value} {wx : World} (h : Box ty g vs wx) (k : Nat) (v : Value) (hv : vs[k]? = some v) : wx.cell? ⟨g, k, none⟩ = some v := by
  rw [cell_of_row _ _ k _ _ (0, 0) h]; simpa using hv
theorem Box.step {ty : TypeId} {g : Nat} {vs : List Value} {wx w' : World} (h : Box ty g vs wx) (hb : Below wx.heap.size wx w') : Box ty g vs w' := (hb.block g h.lt).trans h
theorem box_store (ty : TypeId) (w : World) (z : Array Value) (vs : List Value) : Box ty w.heap.size vs ((w.alloc (.cells z ty)).setRow w.heap.size vs.toArray) ∧ Below w.heap.size w ((w.alloc (.cells z ty)).setRow w.heap.size vs.toArray) :=
  ⟨setRow_heap _ _ _ _ _ _ (heap_alloc_last w _), below_setRow (below_alloc1 w _) (Nat.le_refl _) _⟩
section
variable {P : Program}
theorem run_loadVar_at (w : World) (a : Addr) (ty : TypeId) (cs : List Value) (d : TypeDesc) (hc : ∀ j v, cs[j]? = some v → w.cell? (a.add j) = some v)
    (hu : P.underlying ty = some d) (hd : (match d with | .struct _ | .array _ _ => true | _ => false) = true) (hi : (P.info? ty).map (·.size) = some cs.length) : (loadVar ty a).run P w = .ok (.agg cs.toArray) w := by
  have hl : (loadCells a cs.length).run P w = .ok cs.toArray w := run_loadCells_list (P := P) w a cs hc
  cases hq : P.info? ty with
  | none => simp [hq] at hi
  | some i =>
    have hs : i.size = cs.length := by simpa [hq] using hi
    have hagg : (isAgg ty).run P w = .ok true w := by
      unfold isAgg
      rw [Sem.run_bind, run_underlying hu w]
      cases d <;> simp_all
    simp [loadVar, Sem.run_bind, hagg, sizeOf, typeInfo, hq, hs, hl]
theorem wpList_load_at {w : World} {ops : Array Oper} {rest : List Oper} {o : Oper} {a : Act} {Q : Exit → Act → World → Prop} (hgd : o.guard = none) (p : Operand) (ty : TypeId) (ho : o.op = .load ty p)
    (b off : Nat) (cs : List Value) (d : TypeDesc) (hp : a.eval p = .pointer (some ⟨b, off, none⟩)) (hc : ∀ j v, cs[j]? = some v → w.cell? ⟨b, off + j, none⟩ = some v) (hu : P.underlying ty = some d)
    (hd : (match d with | .struct _ | .array _ _ => true | _ => false) = true) (hi : (P.info? ty).map (·.size) = some cs.length) (h : wpList P ops Q rest (a.put o.dst (.agg cs.toArray)) w) : wpList P ops Q (o :: rest) a w :=
  wpList_plain hgd fun K hK => by
    have hr := run_loadVar_at (P := P) w ⟨b, off, none⟩ ty cs d (fun j v hv => by
      have hadd : (⟨b, off, none⟩ : Addr).add j = ⟨b, off + j, none⟩ := by unfold Addr.add; split <;> simp_all
      rw [hadd]; exact hc j v hv) hu hd hi
    unfold Oper.wp execOp
    simp only [ho, Instr.loadAt, Instr.sureAddr, Sem.run_bind, Sem.run_pure, Result.andThen_ok, hp, hr]
    exact hK _ _ h
end
theorem loss_size : (Tryz.prog.info? 35).map (·.size) = some 3 := by kernel_rfl
end Go.Proofs.YtdjdiiibcocmpaaGreatDoor
/- Law 58, VerifierLines: the program's list of the texts of losses. Conditions: the table of powers of ten; at most 100 losses, paths of at most 500 bytes, numbers that are ints. -/
namespace Go.Proofs.YtdjdiiibcocmpaaGreatDoor
open Go.RowKit Go.Lib
set_option maxRecDepth 1000000
set_option maxHeartbeats 6400000
@[simp, go_sem] def cd1 : Op := .binOp .add 9 (.tmp 14) (.const (.string ⟨#[32]⟩)) 9
@[simp, go_sem] def cd2 : Op := .binOp .add 9 (.tmp 15) (.tmp 18) 9
@[simp, go_sem] def cd3 : Op := .binOp .add 9 (.tmp 19) (.const (.string ⟨#[32]⟩)) 9
@[simp, go_sem] def cd4 : Op := .binOp .add 9 (.tmp 20) (.tmp 23) 9
theorem p_fmtloss (ds : List LossT) (v : Value) (B : Nat) (w : World) (hT : TabW w) (hv : RowV w (· < B) v 3 (lossCells ds)) (hB : B ≤ w.heap.size) (hl : ds.length ≤ 100) (hz : ∀ d ∈ ds, d.1.size ≤ 500 ∧ isInt d.2.1 ∧ isInt d.2.2) :
    Calls Tryz.prog 38 #[v] w fun e w' => ∃ o, e = .returned o ∧ w'.ownsRow w.heap.size 9 1 o ds.length (strsV (ds.map lossLine)) ∧ Below w.heap.size w w' := by
  obtain ⟨i0, hi, hz0, hz1, hz2⟩ := info_parts info_str
  obtain ⟨a, c, rfl, hrow⟩ := hv
  have hlen : (lossCells ds).length = ds.length := by simp [lossCells]
  have HROW := Lib.hid (show ∀ k, (h : k < ds.length) → ∃ b off, a = some ⟨b, off, none⟩ ∧ b < B ∧ ∀ j x, ([.string ds[k].1, .int .i64 ds[k].2.1, .int .i64 ds[k].2.2] : List Value)[j]? = some x → w.cell? ⟨b, off + k * 3 + j, none⟩ = some x from fun k h => by
    obtain ⟨b, off, h1, h2, h3⟩ := hrow k (by omega)
    exact ⟨b, off, h1, h2, fun j x hx => h3 j x (by simpa [lossCells] using hx)⟩)
  have HZ := Lib.hid hz
  have HT := Lib.hid hT
  rw [hlen]
  clear hrow hlen hz hT
  go_enter Tryz.func38, Tryz.ntmps38
  go_wp2_with fail
  go_loopw [3, 8] (fun out i wr => OutR lossLine ds w out i wr) (fun _ i _ => ds.length - (RowKit.intOf i).toNat)
  case atStart => exact ⟨0, rfl, Nat.zero_le _, World.ownsRow_nil .., Below.refl _ _⟩
  case round =>
    obtain ⟨k, rfl, hk, hown, hbw⟩ := hrel
    by_cases hlt : k < ds.length
    · have hi' : (k : Int) < ds.length := by omega
      obtain ⟨b, off, rfl, hbB, hcw⟩ := HROW.out k hlt
      have hcell := fun j x hx => (hbw.cell (Nat.lt_of_lt_of_le hbB hB)).trans (hcw j x hx)
      obtain ⟨hpz, ho, hn⟩ := HZ.out ds[k] (List.getElem_mem hlt)
      have HS := Lib.hid (show strsV ((ds.map lossLine).take (k + 1)) = strsV ((ds.map lossLine).take k) ++ [.string ((((ds[k].1 ++ ⟨#[32]⟩) ++ ⟨(itoa ds[k].2.1).toArray⟩) ++ ⟨#[32]⟩) ++ ⟨(itoa ds[k].2.2).toArray⟩)] by rw [map_take_snoc lossLine ds k hlt, strsV_snoc]; rfl)
      have z1 := itoa_length_le _ ho.1 ho.2
      have z2 := itoa_length_le _ hn.1 hn.2
      have HC1 := Lib.hid (fun (W : World) (hW : TabW W) => p_itoa _ ho W hW)
      have HC2 := Lib.hid (fun (W : World) (hW : TabW W) => p_itoa _ hn W hW)
      clear hcw ho hn
      generalize ds[k].1 = p at *
      generalize ds[k].2.1 = q at *
      generalize ds[k].2.2 = r at *
      obtain ⟨oa, oc, rfl⟩ := own_slice hown
      have hT1 : TabW wr := HT.out.step hbw
      have HCELL := Lib.hid hcell
      clear hcell
      go_upto_region 5 with (first
        | (refine wpList_load_at rfl _ _ rfl b (off + k * 3) [.string p, .int .i64 q, .int .i64 r] _ rfl HCELL.out Tryz.underlying35 rfl loss_size ?_)
        | (refine wpList_store_row rfl _ _ _ rfl wr.heap.size _ #[.string ⟨#[]⟩, .int .i64 0, .int .i64 0] [.string p, .int .i64 q, .int .i64 r].toArray rfl rfl (heap_alloc_last _ _) 3 loss_size rfl rfl rfl ?_)
        | go_in)
      have hbox2 : Box 35 wr.heap.size [.string p, .int .i64 q, .int .i64 r] (wr.alloc (.cells #[.string p, .int .i64 q, .int .i64 r] 35)) := heap_alloc_last _ _
      have hbel2 := below_alloc1 wr (.cells #[.string p, .int .i64 q, .int .i64 r] 35)
      generalize wr.alloc (.cells #[.string p, .int .i64 q, .int .i64 r] 35) = w2 at hbox2 hbel2 ⊢
      have hbw2 := hbw.trans (hbel2.mono hbw.size)
      have hown2 := own_below' hown hbel2
      have HG := Lib.hid (show (Value.slice oa k oc).ownBlock ≠ some wr.heap.size from fun e => by have := (hown.lt _ e).2; omega)
      have hT2 := hT1.step hbel2
      have HMK := Lib.hid (show ∀ W, Below w2.heap.size w2 W → W.cell? ⟨wr.heap.size, 0, none⟩ = some (.string p) ∧ W.cell? ⟨wr.heap.size, 1, none⟩ = some (.int .i64 q) ∧ W.cell? ⟨wr.heap.size, 2, none⟩ = some (.int .i64 r) from fun W hW => ⟨(hbox2.step hW).cell 0 _ rfl, (hbox2.step hW).cell 1 _ rfl, (hbox2.step hW).cell 2 _ rfl⟩)
      have HTB := Lib.hid (fun (W : World) (h : Below w2.heap.size w2 W) => hT2.step h)
      have c0 := hbox2.cell 0 _ rfl
      have c1 := hbox2.cell 1 _ rfl
      have c2 := hbox2.cell 2 _ rfl
      have HOWN := Lib.hid hown2
      have HBW := Lib.hid hbw2
      have g6 : p.size ≤ 500 := hpz
      clear hown hown2 hbw hbw2 hT1 hT2 hbox2 hbel2 HCELL
      generalize wr.heap.size = g at *
      rw [show (Op.binOp .add 9 (.tmp 14) (.const (.string ⟨#[32]⟩)) 9) = cd1 from rfl, show (Op.binOp .add 9 (.tmp 15) (.tmp 18) 9) = cd2 from rfl, show (Op.binOp .add 9 (.tmp 19) (.const (.string ⟨#[32]⟩)) 9) = cd3 from rfl, show (Op.binOp .add 9 (.tmp 20) (.tmp 23) 9) = cd4 from rfl]
      go_region_held3 (fun W => W.cell? ⟨g, 0, none⟩ = some (.string p) ∧ W.cell? ⟨g, 1, none⟩ = some (.int .i64 q) ∧ W.cell? ⟨g, 2, none⟩ = some (.int .i64 r))
        (first | (with_reducible exact KS8.out) | (with_reducible exact HMK.out _ (FR7.out.trans ((below_alloc1 _ _).mono FR7.out.size))) | (with_reducible exact HMK.out _ FR7.out) | (with_reducible exact HMK.out _ FR6.out) | simp [c0, c1, c2])
        (first
        | (refine step_append_own rfl _ _ 39 rfl w.heap.size 9 i0 (.string ⟨#[]⟩) 1 16 Tryz.underlying39 hi hz0 hz1 hz2 rfl (by decide) (.slice oa k oc) k (strsV ((ds.map lossLine).take k)) rfl ?_ ⟨w7.heap.size, 0, none⟩ 1 1 [.string ((((p ++ ⟨#[32]⟩) ++ ⟨(itoa q).toArray⟩) ++ ⟨#[32]⟩) ++ ⟨(itoa r).toArray⟩)] rfl rfl ?_ ?_ ?_ ?_ ?_ ?_
           · exact own_below' HOWN.out (FR7.out.trans ((below_alloc1 _ _).mono FR7.out.size))
           · exact World.news_of_block (fr := (0, 0)) (heap_alloc_last _ _)
           · intro u hu
             simp only [List.mem_cons, List.not_mem_nil, or_false] at hu
             subst hu; rfl
           · unfold maxLen; omega
           · omega
           · exact Nat.le_trans HBW.out.size (FR7.out.trans ((below_alloc1 _ _).mono FR7.out.size)).size
           intro v8 w8 hown8 hgrow8
           have hA := FR7.out.trans ((below_alloc1 w7 (.cells #[.string ((((p ++ ⟨#[32]⟩) ++ ⟨(itoa q).toArray⟩) ++ ⟨#[32]⟩) ++ ⟨(itoa r).toArray⟩)] 9)).mono FR7.out.size)
           have hb8 := (HBW.out.trans (hA.mono HBW.out.size)).grown hgrow8 (Nat.le_trans HBW.out.size hA.size) (fun j hj => (HOWN.out.lt j hj).1)
           have KS8 := Lib.hid (show w8.cell? ⟨g, 0, none⟩ = some (.string p) ∧ w8.cell? ⟨g, 1, none⟩ = some (.int .i64 q) ∧ w8.cell? ⟨g, 2, none⟩ = some (.int .i64 r) from
             have hq := HMK.out _ hA
             have hgl := World.block_lt_of_cell? _ _ hq.1
             ⟨(hgrow8.cell_far ⟨g, 0, none⟩ hgl (fun e => HG.out (e.symm))).trans hq.1, (hgrow8.cell_far ⟨g, 1, none⟩ hgl (fun e => HG.out (e.symm))).trans hq.2.1, (hgrow8.cell_far ⟨g, 2, none⟩ hgl (fun e => HG.out (e.symm))).trans hq.2.2⟩)
           rw [← HS.out] at hown8
           have HO8 := Lib.hid hown8
           have HB8 := Lib.hid hb8
           clear hown8 hb8 hgrow8)
        | (go_at_call 36; (with_reducible refine (HC1.out _ ?_).mono ?_); (first | exact HTB.out _ (Below.refl _ _) | exact HTB.out _ (below_drew (Below.refl _ _)) | exact HTB.out _ (below_drewN' (Below.refl _ _) _)); rintro e w6 ⟨rfl, hb6⟩; have FR6 := Lib.hid (show Below w2.heap.size w2 w6 from by first | exact hb6 | exact (below_drew (Below.refl w2.heap.size w2)).trans hb6 | exact (below_drewN' (Below.refl w2.heap.size w2) _).trans hb6); clear hb6)
        | (go_at_call 36; (with_reducible refine (HC2.out _ ?_).mono ?_); (first | exact HTB.out _ FR6.out | exact HTB.out _ (below_drew FR6.out) | exact HTB.out _ (below_drewN' FR6.out _)); rintro e w7 ⟨rfl, hb7⟩; have FR7 := Lib.hid (show Below w2.heap.size w2 w7 from by first | exact FR6.out.trans (hb7.mono FR6.out.size) | exact (below_drew FR6.out).trans (hb7.mono FR6.out.size) | exact (below_drewN' FR6.out _).trans (hb7.mono FR6.out.size)); clear hb7))
      all_goals
        go_wp2
        go_roundw
        case rel => exact ⟨k + 1, by go_num, by omega, HO8.out, HB8.out⟩
        case measure => simp [RowKit.intOf]; omega
    · have hk' : k = ds.length := by omega
      subst hk'
      rw [List.take_of_length_le (by rw [List.length_map]; exact Nat.le_refl _)] at hown
      have hge : (ds.length : Int) ≤ ds.length := Int.le_refl _
      go_wp2
      go_ret
      exact ⟨_, rfl, hown, hbw⟩
end Go.Proofs.YtdjdiiibcocmpaaGreatDoor
/- Law 58, VerifierLines: the program's list of the texts of differences. Conditions: at most 100 of them, paths of at most 500 bytes. -/
namespace Go.Proofs.YtdjdiiibcocmpaaGreatDoor
open Go.RowKit
set_option maxRecDepth 1000000
set_option maxHeartbeats 6400000
@[simp, go_sem] def ce1 : Op := .binOp .add 9 (.tmp 19) (.const (.string ⟨#[32]⟩)) 9
@[simp, go_sem] def ce2 : Op := .binOp .add 9 (.tmp 20) (.tmp 22) 9
theorem diff_size : (Tryz.prog.info? 30).map (·.size) = some 2 := by kernel_rfl
/-- The words' own block: as the call has laid it. -/
theorem word_cell {g : Nat} {w : World} (h : Box 9 g (words8.map Value.string) w) (q : Int) (hq : 0 ≤ q ∧ q < 8) : w.cell? ⟨g, q.toNat, none⟩ = some (.string (dword q)) := by
  refine h.cell q.toNat _ ?_
  have key : ∀ k : Fin 8, (words8.map Value.string)[k.1]? = some (.string (words8.getD k.1 ⟨#[]⟩)) := by
    intro k
    have : k.1 < words8.length := k.2
    rw [List.getElem?_map, List.getD_eq_getElem?_getD, List.getElem?_eq_getElem this]
    rfl
  have := key ⟨q.toNat, by omega⟩
  rw [this]
  unfold dword
  rw [if_pos hq]
theorem own_lower {w : World} {base base' : Nat} {e : TypeId} {size : Nat} {v : Value} {n : Nat} {xs : List Value} (h : w.ownsRow base e size v n xs) (hb : base' ≤ base) : w.ownsRow base' e size v n xs :=
  ⟨h.1, h.2.imp (fun h => h) fun ⟨g, cap, cur, e1, e2, e3⟩ => ⟨g, cap, cur, e1, Nat.le_trans hb e2, e3⟩⟩
theorem p_fmtdiff (ds : List (Int × ByteArray)) (v : Value) (B : Nat) (w : World) (hv : RowV w (· < B) v 2 (diffCells ds)) (hB : B ≤ w.heap.size) (hl : ds.length ≤ 100) (hz : ∀ d ∈ ds, d.2.size ≤ 500) :
    Calls Tryz.prog 37 #[v] w fun e w' => ∃ o, e = .returned o ∧ w'.ownsRow w.heap.size 9 1 o ds.length (strsV (ds.map diffLine)) ∧ Below w.heap.size w w' := by
  obtain ⟨i0, hi, hz0, hz1, hz2⟩ := info_parts info_str
  obtain ⟨a, c, rfl, hrow⟩ := hv
  have hlen : (diffCells ds).length = ds.length := by simp [diffCells]
  have HROW := Lib.hid (show ∀ k, (h : k < ds.length) → ∃ b off, a = some ⟨b, off, none⟩ ∧ b < B ∧ ∀ j x, ([.int .i64 ds[k].1, .string ds[k].2] : List Value)[j]? = some x → w.cell? ⟨b, off + k * 2 + j, none⟩ = some x from fun k h => by
    obtain ⟨b, off, h1, h2, h3⟩ := hrow k (by omega)
    exact ⟨b, off, h1, h2, fun j x hx => h3 j x (by simpa [diffCells] using hx)⟩)
  have HZ := Lib.hid hz
  have HBX := Lib.hid (show Box 9 w.heap.size (words8.map Value.string) (w.alloc (.cells (words8.map Value.string).toArray 9)) from heap_alloc_last _ _)
  rw [hlen]
  clear hrow hlen hz
  go_enter Tryz.func37, Tryz.ntmps37
  go_wp2_with fail
  go_loopw [4, 10] (fun out i wr => (∃ k : Nat, i = .int .i64 k ∧ k ≤ ds.length ∧ wr.ownsRow (w.heap.size + 1) 9 1 out k (strsV ((ds.map diffLine).take k))) ∧ Box 9 w.heap.size (words8.map Value.string) wr ∧ Below w.heap.size w wr) (fun _ i _ => ds.length - (intOf i).toNat)
  case atStart => exact ⟨⟨0, rfl, Nat.zero_le _, World.ownsRow_nil ..⟩, HBX.out, below_alloc1 _ _⟩
  case round =>
    obtain ⟨⟨k, rfl, hk, hown⟩, hbx, hbw⟩ := hrel
    by_cases hlt : k < ds.length
    · have hi' : (k : Int) < ds.length := by omega
      obtain ⟨b, off, rfl, hbB, hcw⟩ := HROW.out k hlt
      have hcell := fun j x hx => (hbw.cell (Nat.lt_of_lt_of_le hbB hB)).trans (hcw j x hx)
      have hpz := HZ.out ds[k] (List.getElem_mem hlt)
      have HD := Lib.hid (show diffLine ds[k] = if 0 ≤ ds[k].1 ∧ ds[k].1 < 8 then (if ds[k].2.size = 0 then dword ds[k].1 ++ ⟨#[32, 46]⟩ else (dword ds[k].1 ++ ⟨#[32]⟩) ++ ds[k].2) else ⟨#[]⟩ from rfl)
      have HS := Lib.hid (show strsV ((ds.map diffLine).take (k + 1)) = strsV ((ds.map diffLine).take k) ++ [.string (diffLine ds[k])] by rw [map_take_snoc diffLine ds k hlt, strsV_snoc])
      have hw1 := (dword_size ds[k].1).1
      clear hcw
      generalize ds[k].1 = q at *
      generalize ds[k].2 = p at *
      generalize diffLine ds[k] = dl at *
      have HCELL := Lib.hid hcell
      clear hcell
      obtain ⟨oa, oc, rfl⟩ := own_slice hown
      go_upto_region 7 with (first
        | (refine wpList_load_at rfl _ _ rfl b (off + k * 2) [.int .i64 q, .string p] _ rfl HCELL.out Tryz.underlying30 rfl diff_size ?_)
        | go_in)
      have hbox2 : Box 30 wr.heap.size [.int .i64 q, .string p] (wr.alloc (.cells #[.int .i64 q, .string p] 30)) := heap_alloc_last _ _
      have hbel2 := below_alloc1 wr (.cells #[.int .i64 q, .string p] 30)
      have hne : (Value.slice oa k oc).ownBlock ≠ some wr.heap.size := fun e => by have := (hown.lt _ e).2; omega
      generalize wr.alloc (.cells #[.int .i64 q, .string p] 30) = w2 at hbox2 hbel2 ⊢
      have hbw2 := hbw.trans (hbel2.mono hbw.size)
      have hown2 := own_below' hown hbel2
      have hbxw := hbx.step hbel2
      have c0 := hbox2.cell 0 _ rfl
      have c1 := hbox2.cell 1 _ rfl
      have HG := Lib.hid hne
      have HB2 := Lib.hid hbox2
      have HOWN := Lib.hid hown2
      have HBW := Lib.hid hbw2
      have HBXW := Lib.hid hbxw
      have HSZ := Lib.hid (show w.heap.size + 1 ≤ w2.heap.size by have := hbxw.lt; omega)
      clear hown hown2 hbw hbw2 hbox2 hbel2 HCELL hbx hbxw hne
      generalize wr.heap.size = g at *
      by_cases hq : 0 ≤ q ∧ q < 8
      · have hwc := word_cell HBXW.out q hq
        obtain ⟨hq0, hq8⟩ := hq
        have hqn : ¬ q < 0 := by omega
        have hq8n : ¬ 8 ≤ q := by omega
        rw [if_pos ⟨hq0, hq8⟩] at HD
        generalize dword q = D at *
        by_cases hp : p.size = 0
        · have hPE := isE hp
          rw [if_pos hp] at HD
          rw [HD.out] at HS
          clear HD
          go_wp2_with (first
            | (at_builtin; refine wpList_append_own _ rfl _ _ 39 rfl (w.heap.size + 1) 9 i0 (.string ⟨#[]⟩) 1 16 Tryz.underlying39 hi hz0 hz1 hz2 rfl (by decide) _ _ _ rfl (HOWN.out.alloc _) ⟨w2.heap.size, 0, none⟩ 1 1 [.string (D ++ ⟨#[32, 46]⟩)] rfl rfl ?_ ?_ ?_ ?_ ?_ ?_)
            | go_in)
          any_goals first
            | rfl
            | omega
            | (unfold maxLen; omega)
            | exact Nat.le_trans HSZ.out (below_alloc1 w2 _).size
            | (have := HSZ.out; omega)
            | (have := HSZ.out; simp; omega)
            | (intro u hu; simp at hu; subst hu; rfl)
            | (intro j u hj; match j, hj with | 0, hj => simp at hj; subst hj; exact new_one _ _ _ _ rfl)
          intro v' w8 hown' hgrow _
          have hA := HBW.out.trans ((below_alloc1 w2 (.cells #[.string (D ++ ⟨#[32, 46]⟩)] 9)).mono HBW.out.size)
          have hb8 := hA.grown hgrow hA.size (fun j hj => Nat.le_of_succ_le (HOWN.out.lt j hj).1)
          have hbx8 : Box 9 w.heap.size (words8.map Value.string) w8 := (hgrow.block w.heap.size (HBXW.out.step (below_alloc1 w2 (.cells #[.string (D ++ ⟨#[32, 46]⟩)] 9))).lt (fun e => by have := (HOWN.out.lt _ e.symm).1; omega)).trans (HBXW.out.step (below_alloc1 w2 _))
          rw [← HS.out] at hown'
          go_wp2
          go_roundw
          case rel => exact ⟨⟨k + 1, by go_num, by omega, hown'⟩, hbx8, hb8⟩
          case measure => simp [intOf]; omega
        · have hPE := isN hp
          rw [if_neg hp] at HD
          rw [HD.out] at HS
          clear HD
          have hal := fun n o => (below_drewN' (Below.refl w2.heap.size w2) n).trans ((below_alloc1 (w2.drewN n) o).mono (Nat.le_refl _))
          have hald := fun o => below_drew (below_alloc1 w2 o)
          have HMK := Lib.hid (show ∀ W, Below w2.heap.size w2 W → W.cell? ⟨g, 0, none⟩ = some (.int .i64 q) ∧ W.cell? ⟨g, 1, none⟩ = some (.string p) ∧ W.cell? ⟨w.heap.size, q.toNat, none⟩ = some (.string D) from fun W hW => ⟨(HB2.out.step hW).cell 0 _ rfl, (HB2.out.step hW).cell 1 _ rfl, (hW.cell (World.block_lt_of_cell? _ _ hwc)).trans hwc⟩)
          have HAL := Lib.hid hal
          have HALD := Lib.hid hald
          clear hal hald
          go_upto_region 6 with (fail)
          rw [show (Op.binOp .add 9 (.tmp 19) (.const (.string ⟨#[32]⟩)) 9) = ce1 from rfl, show (Op.binOp .add 9 (.tmp 20) (.tmp 22) 9) = ce2 from rfl]
          go_region_held3 (fun W => W.cell? ⟨g, 0, none⟩ = some (.int .i64 q) ∧ W.cell? ⟨g, 1, none⟩ = some (.string p) ∧ W.cell? ⟨w.heap.size, q.toNat, none⟩ = some (.string D))
            (first | (with_reducible exact KS8.out) | (with_reducible exact HMK.out _ (HALD.out _)) | (with_reducible exact HMK.out _ (HAL.out _ _)) | simp [c0, c1, hwc])
            (first
            | (refine step_append_own rfl _ _ 39 rfl (w.heap.size + 1) 9 i0 (.string ⟨#[]⟩) 1 16 Tryz.underlying39 hi hz0 hz1 hz2 rfl (by decide) (.slice oa k oc) k (strsV ((ds.map diffLine).take k)) rfl ?_ ⟨w2.heap.size, 0, none⟩ 1 1 [.string ((D ++ ⟨#[32]⟩) ++ p)] rfl rfl ?_ ?_ ?_ ?_ ?_ ?_
               · first | exact own_below' HOWN.out (HALD.out _) | exact own_below' HOWN.out (HAL.out _ _)
               · exact World.news_of_block (fr := (0, 0)) (heap_alloc_last _ _)
               · intro u hu
                 simp only [List.mem_cons, List.not_mem_nil, or_false] at hu
                 subst hu; rfl
               · unfold maxLen; omega
               · omega
               · first | exact Nat.le_trans HSZ.out (HALD.out _).size | exact Nat.le_trans HSZ.out (HAL.out _ _).size
               intro v8 w8 hown8 hgrow8
               have hA : Below w2.heap.size w2 _ := HALD.out (.cells #[.string ((D ++ ⟨#[32]⟩) ++ p)] 9)
               have hb8 := (HBW.out.trans (hA.mono HBW.out.size)).grown hgrow8 (Nat.le_trans HBW.out.size hA.size) (fun j hj => Nat.le_of_succ_le (HOWN.out.lt j hj).1)
               have hfar := fun (b o : Nat) (hlt : b < w2.heap.size) (hn : (Value.slice oa k oc).ownBlock ≠ some b) => (hgrow8.cell_far ⟨b, o, none⟩ (Nat.lt_of_lt_of_le hlt hA.size) (fun e => hn e.symm)).trans (hA.cell (p := ⟨b, o, none⟩) hlt)
               have hnw : (Value.slice oa k oc).ownBlock ≠ some w.heap.size := fun e => by have := (HOWN.out.lt _ e).1; omega
               have KS8 := Lib.hid (show w8.cell? ⟨g, 0, none⟩ = some (.int .i64 q) ∧ w8.cell? ⟨g, 1, none⟩ = some (.string p) ∧ w8.cell? ⟨w.heap.size, q.toNat, none⟩ = some (.string D) from ⟨(hfar g 0 HB2.out.lt HG.out).trans c0, (hfar g 1 HB2.out.lt HG.out).trans c1, (hfar w.heap.size q.toNat HBXW.out.lt hnw).trans hwc⟩)
               have hbx8 : Box 9 w.heap.size (words8.map Value.string) w8 := (hgrow8.block w.heap.size (HBXW.out.step hA).lt (fun e => hnw e.symm)).trans (HBXW.out.step hA)
               rw [← HS.out] at hown8
               have HO8 := Lib.hid hown8
               have HB8 := Lib.hid hb8
               have HX8 := Lib.hid hbx8
               clear hown8 hb8 hgrow8 hfar hbx8 hA hnw))
          all_goals
            go_wp2
            go_roundw
            case rel => exact ⟨⟨k + 1, by go_num, by omega, HO8.out⟩, HX8.out, HB8.out⟩
            case measure => simp [intOf]; omega
      · rw [if_neg hq] at HD
        rw [HD.out] at HS
        clear HD
        by_cases hq0 : q < 0
        · clear hq
          go_wp2_with (first
            | (at_builtin; refine wpList_append_own _ rfl _ _ 39 rfl (w.heap.size + 1) 9 i0 (.string ⟨#[]⟩) 1 16 Tryz.underlying39 hi hz0 hz1 hz2 rfl (by decide) _ _ _ rfl (HOWN.out.alloc _) ⟨w2.heap.size, 0, none⟩ 1 1 [.string (⟨#[]⟩)] rfl rfl ?_ ?_ ?_ ?_ ?_ ?_)
            | go_in)
          any_goals first
            | rfl
            | omega
            | (unfold maxLen; omega)
            | exact Nat.le_trans HSZ.out (below_alloc1 w2 _).size
            | (have := HSZ.out; omega)
            | (have := HSZ.out; simp; omega)
            | (intro u hu; simp at hu; subst hu; rfl)
            | (intro j u hj; match j, hj with | 0, hj => simp at hj; subst hj; exact new_one _ _ _ _ rfl)
          intro v' w8 hown' hgrow _
          have hA := HBW.out.trans ((below_alloc1 w2 (.cells #[.string (⟨#[]⟩)] 9)).mono HBW.out.size)
          have hb8 := hA.grown hgrow hA.size (fun j hj => Nat.le_of_succ_le (HOWN.out.lt j hj).1)
          have hbx8 : Box 9 w.heap.size (words8.map Value.string) w8 := (hgrow.block w.heap.size (HBXW.out.step (below_alloc1 w2 (.cells #[.string (⟨#[]⟩)] 9))).lt (fun e => by have := (HOWN.out.lt _ e.symm).1; omega)).trans (HBXW.out.step (below_alloc1 w2 _))
          rw [← HS.out] at hown'
          go_wp2
          go_roundw
          case rel => exact ⟨⟨k + 1, by go_num, by omega, hown'⟩, hbx8, hb8⟩
          case measure => simp [intOf]; omega
        · have hq8 : 8 ≤ q := by omega
          clear hq
          go_wp2_with (first
            | (at_builtin; refine wpList_append_own _ rfl _ _ 39 rfl (w.heap.size + 1) 9 i0 (.string ⟨#[]⟩) 1 16 Tryz.underlying39 hi hz0 hz1 hz2 rfl (by decide) _ _ _ rfl (HOWN.out.alloc _) ⟨w2.heap.size, 0, none⟩ 1 1 [.string (⟨#[]⟩)] rfl rfl ?_ ?_ ?_ ?_ ?_ ?_)
            | go_in)
          any_goals first
            | rfl
            | omega
            | (unfold maxLen; omega)
            | exact Nat.le_trans HSZ.out (below_alloc1 w2 _).size
            | (have := HSZ.out; omega)
            | (have := HSZ.out; simp; omega)
            | (intro u hu; simp at hu; subst hu; rfl)
            | (intro j u hj; match j, hj with | 0, hj => simp at hj; subst hj; exact new_one _ _ _ _ rfl)
          intro v' w8 hown' hgrow _
          have hA := HBW.out.trans ((below_alloc1 w2 (.cells #[.string (⟨#[]⟩)] 9)).mono HBW.out.size)
          have hb8 := hA.grown hgrow hA.size (fun j hj => Nat.le_of_succ_le (HOWN.out.lt j hj).1)
          have hbx8 : Box 9 w.heap.size (words8.map Value.string) w8 := (hgrow.block w.heap.size (HBXW.out.step (below_alloc1 w2 (.cells #[.string (⟨#[]⟩)] 9))).lt (fun e => by have := (HOWN.out.lt _ e.symm).1; omega)).trans (HBXW.out.step (below_alloc1 w2 _))
          rw [← HS.out] at hown'
          go_wp2
          go_roundw
          case rel => exact ⟨⟨k + 1, by go_num, by omega, hown'⟩, hbx8, hb8⟩
          case measure => simp [intOf]; omega
    · have hk' : k = ds.length := by omega
      subst hk'
      rw [List.take_of_length_le (by rw [List.length_map]; exact Nat.le_refl _)] at hown
      have hge : (ds.length : Int) ≤ ds.length := Int.le_refl _
      have hown' := own_lower hown (Nat.le_succ _)
      go_wp2
      go_ret
      exact ⟨_, rfl, hown', hbw⟩
end Go.Proofs.YtdjdiiibcocmpaaGreatDoor
/- Law 58, VerifierLines: whether a report is sound, in the package. Conditions: none. -/
namespace Go.Proofs.YtdjdiiibcocmpaaGreatDoor
open Go.RowKit
set_option maxRecDepth 1000000
set_option maxHeartbeats 6400000
/-- The cells of a report: its numbers, its findings, the differences of four views, its losses. -/
def repCells (s v : Int) (fa : Option Addr) (nf fc : Nat) (a0 : Option Addr) (l0 c0 : Nat) (a1 : Option Addr) (l1 c1 : Nat) (a2 : Option Addr) (l2 c2 : Nat) (a3 : Option Addr) (l3 c3 : Nat) (la : Option Addr) (nl lc : Nat) : List Value :=
  [.int .i64 s, .int .i64 v, .slice fa nf fc, .slice a0 l0 c0, .slice a1 l1 c1, .slice a2 l2 c2, .slice a3 l3 c3, .slice la nl lc]
theorem dif_row_size (h : 23 < Tryz.prog.types.size) : (Tryz.prog.types[23]'h).size = 1 := by kernel_rfl
theorem ix_view0 (p0 p1 p2 p3 : Value) (w : World) : Sem.run Tryz.prog (Instr.index 24 (.agg #[p0, p1, p2, p3]) (.int .i64 0)) w = .ok p0 w := by kernel_rfl
theorem ix_viewn0 (p0 p1 p2 p3 : Value) (w : World) : Sem.run Tryz.prog (Instr.index 24 (.agg #[p0, p1, p2, p3]) (.int .i64 ((0 : Nat) : Int))) w = .ok p0 w := by kernel_rfl
theorem ix_view1 (p0 p1 p2 p3 : Value) (w : World) : Sem.run Tryz.prog (Instr.index 24 (.agg #[p0, p1, p2, p3]) (.int .i64 1)) w = .ok p1 w := by kernel_rfl
theorem ix_viewn1 (p0 p1 p2 p3 : Value) (w : World) : Sem.run Tryz.prog (Instr.index 24 (.agg #[p0, p1, p2, p3]) (.int .i64 ((1 : Nat) : Int))) w = .ok p1 w := by kernel_rfl
theorem ix_view2 (p0 p1 p2 p3 : Value) (w : World) : Sem.run Tryz.prog (Instr.index 24 (.agg #[p0, p1, p2, p3]) (.int .i64 2)) w = .ok p2 w := by kernel_rfl
theorem ix_viewn2 (p0 p1 p2 p3 : Value) (w : World) : Sem.run Tryz.prog (Instr.index 24 (.agg #[p0, p1, p2, p3]) (.int .i64 ((2 : Nat) : Int))) w = .ok p2 w := by kernel_rfl
theorem ix_view3 (p0 p1 p2 p3 : Value) (w : World) : Sem.run Tryz.prog (Instr.index 24 (.agg #[p0, p1, p2, p3]) (.int .i64 3)) w = .ok p3 w := by kernel_rfl
theorem ix_viewn3 (p0 p1 p2 p3 : Value) (w : World) : Sem.run Tryz.prog (Instr.index 24 (.agg #[p0, p1, p2, p3]) (.int .i64 ((3 : Nat) : Int))) w = .ok p3 w := by kernel_rfl
def soundB (v : Int) (nf l0 l1 l2 l3 nl : Nat) : Bool := decide (l0 = 0 ∧ l1 = 0 ∧ l2 = 0 ∧ l3 = 0 ∧ v ≠ 0 ∧ nf = 0 ∧ nl = 0)
def SoR (w : World) (cs : List Value) (l0 l1 l2 l3 : Nat) (i : Value) (wr : World) : Prop :=
  ∃ k : Nat, i = .int .i64 k ∧ k ≤ 4 ∧ Box 27 w.heap.size cs wr ∧ Below w.heap.size w wr ∧ (0 < k → l0 = 0) ∧ (1 < k → l1 = 0) ∧ (2 < k → l2 = 0) ∧ (3 < k → l3 = 0)
theorem p_sound (s v : Int) (fa a0 a1 a2 a3 la : Option Addr) (nf fc l0 c0 l1 c1 l2 c2 l3 c3 nl lc : Nat) (w : World) :
    Calls Tryz.prog 9 #[.agg (repCells s v fa nf fc a0 l0 c0 a1 l1 c1 a2 l2 c2 a3 l3 c3 la nl lc).toArray] w fun e w' => e = .returned (.bool (soundB v nf l0 l1 l2 l3 nl)) ∧ Below w.heap.size w w' := by
  have HB0 := Lib.hid (show Box 27 w.heap.size (repCells s v fa nf fc a0 l0 c0 a1 l1 c1 a2 l2 c2 a3 l3 c3 la nl lc) (w.alloc (.cells (repCells s v fa nf fc a0 l0 c0 a1 l1 c1 a2 l2 c2 a3 l3 c3 la nl lc).toArray 27)) from heap_alloc_last _ _)
  unfold repCells at HB0 ⊢
  go_enter Tryz.func9, Tryz.ntmps9
  go_wp2_with fail
  go_loopw [7] (fun i wr => SoR w [.int .i64 s, .int .i64 v, .slice fa nf fc, .slice a0 l0 c0, .slice a1 l1 c1, .slice a2 l2 c2, .slice a3 l3 c3, .slice la nl lc] l0 l1 l2 l3 i wr) (fun i _ => 4 - (intOf i).toNat)
  case atStart => exact ⟨0, rfl, by omega, HB0.out, below_alloc1 _ _, by omega, by omega, by omega, by omega⟩
  case round =>
    obtain ⟨k, rfl, hk, hbx, hbw, h0, h1, h2, h3⟩ := hrel
    replace h0 := Lib.hid h0
    replace h1 := Lib.hid h1
    replace h2 := Lib.hid h2
    replace h3 := Lib.hid h3
    have d1 := hbx.cell 1 _ rfl
    have d2 := hbx.cell 2 _ rfl
    have d7 := hbx.cell 7 _ rfl
    by_cases hlt : k < 4
    · have key : k = 0 ∨ k = 1 ∨ k = 2 ∨ k = 3 := by omega
      rcases key with rfl | rfl | rfl | rfl
      · have hlk : (((0 : Nat) : Int) < l0) ∨ l0 = 0 := by omega
        rcases hlk with hlk | hlk
        · have hB := Lib.hid (show soundB v nf l0 l1 l2 l3 nl = false by unfold soundB; simp; omega)
          have hlk' : (0 : Int) < l0 := by omega
          go_wp2
          first | rw [ix_view0] | rw [ix_view1] | rw [ix_view2] | rw [ix_view3] | rw [ix_viewn0] | rw [ix_viewn1] | rw [ix_viewn2] | rw [ix_viewn3]
          simp only [Result.andThen, Oper.upon]
          go_wp2
          go_ret
          exact ⟨by rw [hB.out]; rfl, hbw⟩
        · subst hlk
          go_wp2
          first | rw [ix_view0] | rw [ix_view1] | rw [ix_view2] | rw [ix_view3] | rw [ix_viewn0] | rw [ix_viewn1] | rw [ix_viewn2] | rw [ix_viewn3]
          simp only [Result.andThen, Oper.upon]
          go_wp2
          go_roundw
          case rel => exact ⟨0 + 1, by go_num, by omega, hbx, hbw, fun _ => rfl, fun hh => by omega, fun hh => by omega, fun hh => by omega⟩
          case measure => simp [intOf]
      · have hlk : (((0 : Nat) : Int) < l1) ∨ l1 = 0 := by omega
        rcases hlk with hlk | hlk
        · have hB := Lib.hid (show soundB v nf l0 l1 l2 l3 nl = false by unfold soundB; simp; omega)
          have hlk' : (0 : Int) < l1 := by omega
          go_wp2
          first | rw [ix_view0] | rw [ix_view1] | rw [ix_view2] | rw [ix_view3] | rw [ix_viewn0] | rw [ix_viewn1] | rw [ix_viewn2] | rw [ix_viewn3]
          simp only [Result.andThen, Oper.upon]
          go_wp2
          go_ret
          exact ⟨by rw [hB.out]; rfl, hbw⟩
        · subst hlk
          go_wp2
          first | rw [ix_view0] | rw [ix_view1] | rw [ix_view2] | rw [ix_view3] | rw [ix_viewn0] | rw [ix_viewn1] | rw [ix_viewn2] | rw [ix_viewn3]
          simp only [Result.andThen, Oper.upon]
          go_wp2
          go_roundw
          case rel => exact ⟨1 + 1, by go_num, by omega, hbx, hbw, fun _ => h0.out (by omega), fun _ => rfl, fun hh => by omega, fun hh => by omega⟩
          case measure => simp [intOf]
      · have hlk : (((0 : Nat) : Int) < l2) ∨ l2 = 0 := by omega
        rcases hlk with hlk | hlk
        · have hB := Lib.hid (show soundB v nf l0 l1 l2 l3 nl = false by unfold soundB; simp; omega)
          have hlk' : (0 : Int) < l2 := by omega
          go_wp2
          first | rw [ix_view0] | rw [ix_view1] | rw [ix_view2] | rw [ix_view3] | rw [ix_viewn0] | rw [ix_viewn1] | rw [ix_viewn2] | rw [ix_viewn3]
          simp only [Result.andThen, Oper.upon]
          go_wp2
          go_ret
          exact ⟨by rw [hB.out]; rfl, hbw⟩
        · subst hlk
          go_wp2
          first | rw [ix_view0] | rw [ix_view1] | rw [ix_view2] | rw [ix_view3] | rw [ix_viewn0] | rw [ix_viewn1] | rw [ix_viewn2] | rw [ix_viewn3]
          simp only [Result.andThen, Oper.upon]
          go_wp2
          go_roundw
          case rel => exact ⟨2 + 1, by go_num, by omega, hbx, hbw, fun _ => h0.out (by omega), fun _ => h1.out (by omega), fun _ => rfl, fun hh => by omega⟩
          case measure => simp [intOf]
      · have hlk : (((0 : Nat) : Int) < l3) ∨ l3 = 0 := by omega
        rcases hlk with hlk | hlk
        · have hB := Lib.hid (show soundB v nf l0 l1 l2 l3 nl = false by unfold soundB; simp; omega)
          have hlk' : (0 : Int) < l3 := by omega
          go_wp2
          first | rw [ix_view0] | rw [ix_view1] | rw [ix_view2] | rw [ix_view3] | rw [ix_viewn0] | rw [ix_viewn1] | rw [ix_viewn2] | rw [ix_viewn3]
          simp only [Result.andThen, Oper.upon]
          go_wp2
          go_ret
          exact ⟨by rw [hB.out]; rfl, hbw⟩
        · subst hlk
          go_wp2
          first | rw [ix_view0] | rw [ix_view1] | rw [ix_view2] | rw [ix_view3] | rw [ix_viewn0] | rw [ix_viewn1] | rw [ix_viewn2] | rw [ix_viewn3]
          simp only [Result.andThen, Oper.upon]
          go_wp2
          go_roundw
          case rel => exact ⟨3 + 1, by go_num, by omega, hbx, hbw, fun _ => h0.out (by omega), fun _ => h1.out (by omega), fun _ => h2.out (by omega), fun _ => rfl⟩
          case measure => simp [intOf]
    · have hk' : k = 4 := by omega
      subst hk'
      have e0 := h0.out (by omega)
      have e1 := h1.out (by omega)
      have e2 := h2.out (by omega)
      have e3 := h3.out (by omega)
      have HS := Lib.hid (show soundB v nf l0 l1 l2 l3 nl = decide (v ≠ 0 ∧ nf = 0 ∧ nl = 0) by unfold soundB; simp [e0, e1, e2, e3])
      clear h0 h1 h2 h3 e0 e1 e2 e3
      by_cases hv : v = 0
      · subst hv
        go_wp2
        go_ret
        exact ⟨by rw [HS.out]; simp, hbw⟩
      · by_cases hn : nf = 0
        · subst hn
          by_cases hm : nl = 0
          · subst hm
            go_wp2
            go_ret
            exact ⟨by rw [HS.out]; simp [hv], hbw⟩
          · have hm' : ((nl : Int) == 0) = false := by simp; omega
            go_wp2
            go_ret
            exact ⟨by rw [HS.out]; simp [hv, hm], hbw⟩
        · have hn' : ((nf : Int) == 0) = false := by simp; omega
          go_wp2
          go_ret
          exact ⟨by rw [HS.out]; simp [hv, hn], hbw⟩
end Go.Proofs.YtdjdiiibcocmpaaGreatDoor
/- Law 58, VerifierLines: whether a report is sound, in the reference. Conditions: none. -/
namespace Go.Proofs.YtdjdiiibcocmpaaGreatDoor
open Go.RowKit
set_option maxRecDepth 1000000
set_option maxHeartbeats 6400000
theorem r_sound (s v : Int) (fa a0 a1 a2 a3 la : Option Addr) (nf fc l0 c0 l1 c1 l2 c2 l3 c3 nl lc : Nat) (w : World) :
    Calls Tryz.prog 10 #[.agg (repCells s v fa nf fc a0 l0 c0 a1 l1 c1 a2 l2 c2 a3 l3 c3 la nl lc).toArray] w fun e w' => e = .returned (.bool (soundB v nf l0 l1 l2 l3 nl)) ∧ Below w.heap.size w w' := by
  have HB0 := Lib.hid (show Box 27 w.heap.size (repCells s v fa nf fc a0 l0 c0 a1 l1 c1 a2 l2 c2 a3 l3 c3 la nl lc) (w.alloc (.cells (repCells s v fa nf fc a0 l0 c0 a1 l1 c1 a2 l2 c2 a3 l3 c3 la nl lc).toArray 27)) from heap_alloc_last _ _)
  unfold repCells at HB0 ⊢
  go_enter Tryz.func10, Tryz.ntmps10
  go_wp2_with fail
  go_loopw [3] (fun i wr => SoR w [.int .i64 s, .int .i64 v, .slice fa nf fc, .slice a0 l0 c0, .slice a1 l1 c1, .slice a2 l2 c2, .slice a3 l3 c3, .slice la nl lc] l0 l1 l2 l3 i wr) (fun i _ => 4 - (intOf i).toNat)
  case atStart => exact ⟨0, rfl, by omega, HB0.out, below_alloc1 _ _, by omega, by omega, by omega, by omega⟩
  case round =>
    obtain ⟨k, rfl, hk, hbx, hbw, h0, h1, h2, h3⟩ := hrel
    replace h0 := Lib.hid h0
    replace h1 := Lib.hid h1
    replace h2 := Lib.hid h2
    replace h3 := Lib.hid h3
    have d1 := hbx.cell 1 _ rfl
    have d2 := hbx.cell 2 _ rfl
    have d7 := hbx.cell 7 _ rfl
    have d3 := hbx.cell 3 _ rfl
    have d4 := hbx.cell 4 _ rfl
    have d5 := hbx.cell 5 _ rfl
    have d6 := hbx.cell 6 _ rfl
    by_cases hlt : k < 4
    · have key : k = 0 ∨ k = 1 ∨ k = 2 ∨ k = 3 := by omega
      rcases key with rfl | rfl | rfl | rfl
      · have hlk : (((0 : Nat) : Int) < l0) ∨ l0 = 0 := by omega
        rcases hlk with hlk | hlk
        · have hB := Lib.hid (show soundB v nf l0 l1 l2 l3 nl = false by unfold soundB; simp; omega)
          have hlk' : (0 : Int) < l0 := by omega
          go_wp2
          go_ret
          exact ⟨by rw [hB.out]; rfl, hbw⟩
        · subst hlk
          go_wp2
          go_roundw
          case rel => exact ⟨0 + 1, by go_num, by omega, hbx, hbw, fun _ => rfl, fun hh => by omega, fun hh => by omega, fun hh => by omega⟩
          case measure => simp [intOf]
      · have hlk : (((0 : Nat) : Int) < l1) ∨ l1 = 0 := by omega
        rcases hlk with hlk | hlk
        · have hB := Lib.hid (show soundB v nf l0 l1 l2 l3 nl = false by unfold soundB; simp; omega)
          have hlk' : (0 : Int) < l1 := by omega
          go_wp2
          go_ret
          exact ⟨by rw [hB.out]; rfl, hbw⟩
        · subst hlk
          go_wp2
          go_roundw
          case rel => exact ⟨1 + 1, by go_num, by omega, hbx, hbw, fun _ => h0.out (by omega), fun _ => rfl, fun hh => by omega, fun hh => by omega⟩
          case measure => simp [intOf]
      · have hlk : (((0 : Nat) : Int) < l2) ∨ l2 = 0 := by omega
        rcases hlk with hlk | hlk
        · have hB := Lib.hid (show soundB v nf l0 l1 l2 l3 nl = false by unfold soundB; simp; omega)
          have hlk' : (0 : Int) < l2 := by omega
          go_wp2
          go_ret
          exact ⟨by rw [hB.out]; rfl, hbw⟩
        · subst hlk
          go_wp2
          go_roundw
          case rel => exact ⟨2 + 1, by go_num, by omega, hbx, hbw, fun _ => h0.out (by omega), fun _ => h1.out (by omega), fun _ => rfl, fun hh => by omega⟩
          case measure => simp [intOf]
      · have hlk : (((0 : Nat) : Int) < l3) ∨ l3 = 0 := by omega
        rcases hlk with hlk | hlk
        · have hB := Lib.hid (show soundB v nf l0 l1 l2 l3 nl = false by unfold soundB; simp; omega)
          have hlk' : (0 : Int) < l3 := by omega
          go_wp2
          go_ret
          exact ⟨by rw [hB.out]; rfl, hbw⟩
        · subst hlk
          go_wp2
          go_roundw
          case rel => exact ⟨3 + 1, by go_num, by omega, hbx, hbw, fun _ => h0.out (by omega), fun _ => h1.out (by omega), fun _ => h2.out (by omega), fun _ => rfl⟩
          case measure => simp [intOf]
    · have hk' : k = 4 := by omega
      subst hk'
      have e0 := h0.out (by omega)
      have e1 := h1.out (by omega)
      have e2 := h2.out (by omega)
      have e3 := h3.out (by omega)
      have HS := Lib.hid (show soundB v nf l0 l1 l2 l3 nl = decide (v ≠ 0 ∧ nf = 0 ∧ nl = 0) by unfold soundB; simp [e0, e1, e2, e3])
      clear h0 h1 h2 h3 e0 e1 e2 e3
      by_cases hv : v = 0
      · subst hv
        go_wp2
        go_ret
        exact ⟨by rw [HS.out]; simp, hbw⟩
      · by_cases hn : nf = 0
        · subst hn
          by_cases hm : nl = 0
          · subst hm
            go_wp2
            go_ret
            exact ⟨by rw [HS.out]; simp [hv], hbw⟩
          · have hm' : ((nl : Int) == 0) = false := by simp; omega
            go_wp2
            go_ret
            exact ⟨by rw [HS.out]; simp [hv, hm], hbw⟩
        · have hn' : ((nf : Int) == 0) = false := by simp; omega
          go_wp2
          go_ret
          exact ⟨by rw [HS.out]; simp [hv, hn], hbw⟩
end Go.Proofs.YtdjdiiibcocmpaaGreatDoor
/- Law 58, VerifierLines: the words of the views, in the reference. Conditions: the view lies below 4. -/
namespace Go.Proofs.YtdjdiiibcocmpaaGreatDoor
open Go.RowKit
set_option maxRecDepth 1000000
set_option maxHeartbeats 3200000
/-- The words of the views. -/
def vwords : List ByteArray := [⟨#[105, 115, 111]⟩, ⟨#[106, 111, 108, 105, 101, 116]⟩, ⟨#[114, 111, 99, 107, 114, 105, 100, 103, 101]⟩, ⟨#[117, 100, 102]⟩]
theorem r_view (k : Nat) (hk : k < 4) (w : World) : Calls Tryz.prog 24 #[.int .i64 k] w fun e w' => e = .returned (.string (vwords.getD k ⟨#[]⟩)) ∧ w' = w := by
  have key : k = 0 ∨ k = 1 ∨ k = 2 ∨ k = 3 := by omega
  rcases key with rfl | rfl | rfl | rfl <;>
  · go_enter Tryz.func24, Tryz.ntmps24
    go_wp2
    go_ret
    exact ⟨rfl, rfl⟩
end Go.Proofs.YtdjdiiibcocmpaaGreatDoor
