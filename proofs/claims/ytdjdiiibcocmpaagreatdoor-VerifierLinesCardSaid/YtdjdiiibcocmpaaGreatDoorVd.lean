/- Law 58, VerifierLines: the program's lines of a report: its iterator, and the loop that collects them. Conditions: as each theorem says. -/
import Derived.OrdersIn
import Derived.OrdersHeld
import Derived.RangeFuncLeaves
import Derived.KernelRfl
import Derived.Test.YtdjdiiibcocmpaaGreatDoorVc
import Derived.RangeFuncBox
import Derived.Shelf.Abstract
import Derived.WalkKit
import Derived.OwnWalkIn
import Derived.TacticsInMore
import Derived.LoopNIn
import Derived.LoopIn
import Derived.Maps.OwnIn
import Derived.Sort.CutIn
import Derived.RangeFuncNested
import Derived.RangeFuncBound
import Derived.RangeFuncCalls
/- Law 58, VerifierLines: plain laws, of no program: a region that draws its order inside a function that yields: reads of cells that nobody in the region writes may come up first. Conditions: as the laws say. -/
namespace Go.Proofs.YtdjdiiibcocmpaaGreatDoor
section
variable {P : Program} {ops : Array Oper} {Q : Exit → Act → World → Prop} {md : Region.Mode} {S : World → Prop} {n L : Nat}
/-- Whatever order comes, 'S' holds behind each operation but number L: at the fence that lets all in. -/
def anyHW (n : Nat) (P : Program) (md : Region.Mode) (ops : Array Oper) (Q : Exit → Act → World → Prop) (S : World → Prop) (L : Nat) : Nat → Array Bool → Act → World → Prop
  | 0, done, a, w => Region.ready md ops done = [] ∧ Q .normal a w
  | f + 1, done, a, w => (Region.ready md ops done = [] → Q .normal a w) ∧
      ∀ i ∈ Region.ready md ops done, wpOpIn Fence.wide n P ops Q i (fun a' w' => (i ≠ L → done.getD L true = false → S w') ∧ anyHW n P md ops Q S L f (done.setIfInBounds i true) a' w') a w
theorem anyIn_of_hw : ∀ (f : Nat) (done : Array Bool) (a : Act) (w : World), anyHW n P md ops Q S L f done a w → wpAnyIn Fence.wide n P md ops Q f done a w
  | 0, _, _, _, h => h
  | f + 1, _, _, _, h => ⟨h.1, fun i hi => wpOpIn_mono (fun a' w' q => anyIn_of_hw f _ a' w' q.2) (h.2 i hi)⟩
theorem opIn_of_if {i : Nat} {o : Oper} {v : Value} {a : Act} (hi : ops[i]? = some o) (hy : YieldsIf P ops S o v a) {K : Act → World → Prop} {w : World} (hS : S w) (h : K (a.put o.dst v) w) : wpOpIn Fence.wide n P ops Q i K a w := by
  unfold wpOpIn
  rw [hi]
  show if Region.wanted o (yielded ops a.tmps) = true then _ else _
  rcases hy with ⟨h1, h2⟩ | ⟨h1, rfl⟩
  · rw [if_pos h1]
    refine ⟨fun _ _ => trivial, ?_⟩
    show o.uponIn Fence.wide n P a K Q ((execOp a.eval o).run P w)
    rw [h2 w hS]
    exact h
  · rw [if_neg (by rw [h1]; exact Bool.false_ne_true)]
    exact ⟨fun _ _ => trivial, h⟩
/-- An operation apart from one that yields in every world of 'S': it may be carried out ahead of it or behind it. -/
theorem opIn_swap {j : Nat} {oi oj : Oper} {v : Value} (hj : ops[j]? = some oj) (hap : oi.apart ops oj = true) (hsi : ∀ cs b, oi.op ≠ .select cs b) (hsj : ∀ cs b, oj.op ≠ .select cs b)
    (hQ : ∀ c a w, Q (.panic c) (a.put oi.dst v) w → Q (.panic c) a w) {K : Act → World → Prop} {a : Act} {w : World} (hy : YieldsIf P ops S oi v a) (h : wpOpIn Fence.wide n P ops Q j K (a.put oi.dst v) w) :
    wpOpIn Fence.wide n P ops Q j (fun a' w' => YieldsIf P ops S oi v a' ∧ K (a'.put oi.dst v) w') a w := by
  obtain ⟨q1, q2, q3⟩ := Oper.apart_spec hap
  have stay : ∀ u, YieldsIf P ops S oi v (a.put oj.dst u) := fun u => YieldsIf.of_same hy (execOp_put oi hsi a oj.dst u q3) (wanted_put oi a oj.dst u q3)
  have both : ∀ u w', K ((a.put oi.dst v).put oj.dst u) w' → YieldsIf P ops S oi v (a.put oj.dst u) ∧ K ((a.put oj.dst u).put oi.dst v) w' := fun u w' hk => ⟨stay u, by rw [← Act.put_comm a v u q2]; exact hk⟩
  unfold wpOpIn at h ⊢
  rw [hj] at h ⊢
  simp only [wanted_put oj a oi.dst v q1] at h ⊢
  by_cases hw : Region.wanted oj (yielded ops a.tmps) = true
  · rw [if_pos hw] at h ⊢
    refine ⟨fun _ _ => trivial, ?_⟩
    have h' := h.2
    rw [show (Fence.wide).round = none from rfl, Oper.semAt_none, execOp_put oj hsj a oi.dst v q1] at h'
    rw [show (Fence.wide).round = none from rfl, Oper.semAt_none]
    generalize (execOp a.eval oj).run P w = r at h' ⊢
    cases r with
    | halt x w' => cases x <;> first | exact hQ _ _ _ h' | exact h'
    | ok x w' =>
      cases x with
      | value u => exact both u w' h'
      | skip => exact both _ w' h'
      | defer d =>
        refine ⟨YieldsIf.of_same (YieldsIf.of_same (a' := { a with defers := d :: a.defers }) hy rfl rfl) (execOp_put oi hsi _ oj.dst _ q3) (wanted_put oi _ oj.dst _ q3), ?_⟩
        rw [← Act.put_comm _ v undef q2, ← Act.put_defers]
        exact h'
      | enter f args => exact ⟨h'.1, CallsIn.mono h'.2 fun e w'' he => by cases e with | returned u => exact both u w'' he | panicked c => exact hQ _ _ _ he | outgrown => exact he⟩
      | row row args => exact ⟨h'.1, RowsIn.mono h'.2 fun u w'' he => both u w'' he⟩
      | round l f tmps assign body => exact ⟨h'.1, RoundIn.mono h'.2 fun e w'' he => by cases e with | returned u => exact both u w'' he | panicked c => exact hQ _ _ _ he | outgrown => exact he⟩
      | _ => exact h'
  · rw [if_neg hw] at h ⊢
    exact ⟨fun _ _ => trivial, both _ _ h.2⟩
/-- Whoever is listed, those that it waits for are listed. -/
def Closed (md : Region.Mode) (ops : Array Oper) (done : Array Bool) : Prop := ∀ j o, ops[j]? = some o → done.getD j true = true → ∀ e ∈ o.after, Region.binds md e = true → done.getD e.on true = true
def closedB (md : Region.Mode) (ops : Array Oper) (done : Array Bool) : Bool :=
  (List.range ops.size).all fun j => match ops[j]? with
    | some o => !done.getD j true || o.after.all fun e => !Region.binds md e || done.getD e.on true
    | none => true
theorem closed_of {done : Array Bool} (h : closedB md ops done = true) : Closed md ops done := fun j o hj hd e he hb => by
  have h1 := List.all_eq_true.1 h j (List.mem_range.2 (Array.getElem?_eq_some_iff.1 hj).1)
  rw [hj] at h1
  simp only [hd, Bool.not_true, Bool.false_or] at h1
  have h2 := (Array.all_eq_true_iff_forall_mem.1 h1) e he
  simpa [hb] using h2
theorem listed_of_ready {done : Array Bool} {j : Nat} (h : j ∈ Region.ready md ops done) : ∃ o, ops[j]? = some o ∧ ∀ e ∈ o.after, Region.binds md e = true → done.getD e.on true = true := by
  obtain ⟨_, o, ho, hall⟩ := mem_ready.1 h
  exact ⟨o, ho, fun e he hb => by
    have := hall e he hb
    cases hq : done[e.on]? with
    | none => simp [hq] at this
    | some b => simp [hq] at this ⊢; exact this⟩
theorem closed_step {done : Array Bool} (h : Closed md ops done) {j : Nat} (hj : j ∈ Region.ready md ops done) : Closed md ops (done.setIfInBounds j true) := by
  obtain ⟨o, ho, hall⟩ := listed_of_ready hj
  have up : ∀ k, done.getD k true = true → (done.setIfInBounds j true).getD k true = true := fun k hk => by
    by_cases e : j = k
    · subst e
      rcases Nat.lt_or_ge j done.size with hlt | hge
      · simp [hlt]
      · simp [hge]
    · rw [getD_set_ne true e]; exact hk
  intro k ok hk hd e he hb
  by_cases ejk : j = k
  · subst ejk
    rw [ho] at hk; injection hk with hk; subst hk
    exact up _ (hall e he hb)
  · rw [getD_set_ne true ejk] at hd
    exact up _ (h k ok hk hd e he hb)
def hop (md : Region.Mode) (ops : Array Oper) (j k : Nat) : Bool := match ops[j]? with
  | some o => o.after.any fun e => Region.binds md e && e.on == k
  | none => false
def hops (md : Region.Mode) (ops : Array Oper) : Nat → List Nat → Bool
  | _, [] => true
  | j, k :: r => hop md ops j k && hops md ops k r
theorem hop_spec {j k : Nat} (h : hop md ops j k = true) {o : Oper} (ho : ops[j]? = some o) {done : Array Bool} (hall : ∀ e ∈ o.after, Region.binds md e = true → done.getD e.on true = true) : done.getD k true = true := by
  unfold hop at h
  rw [ho] at h
  obtain ⟨i, hi, hb⟩ := Array.any_eq_true.1 h
  obtain ⟨h1, h2⟩ := Bool.and_eq_true_iff.1 hb
  have := hall _ (Array.getElem_mem hi) h1
  rw [← beq_iff_eq.1 h2]; exact this
theorem hops_listed {done : Array Bool} (hc : Closed md ops done) : ∀ (l : List Nat) (j : Nat) (o : Oper), ops[j]? = some o → (∀ e ∈ o.after, Region.binds md e = true → done.getD e.on true = true) → hops md ops j l = true → ∀ k ∈ l, done.getD k true = true
  | [], _, _, _, _, _, k, hk => absurd hk (List.not_mem_nil)
  | k :: r, j, o, ho, hall, h, i, hi => by
    obtain ⟨h1, h2⟩ := Bool.and_eq_true_iff.1 h
    have hk := hop_spec h1 ho hall
    rcases List.mem_cons.1 hi with rfl | hi
    · exact hk
    · cases hok : ops[k]? with
      | none =>
        cases r with
        | nil => exact absurd hi (List.not_mem_nil)
        | cons k2 r2 =>
          obtain ⟨h3, _⟩ := Bool.and_eq_true_iff.1 h2
          unfold hop at h3
          rw [hok] at h3
          exact Bool.noConfusion h3
      | some ok => exact hops_listed hc r k ok hok (fun e he hb => hc k ok hok hk e he hb) h2 i hi
theorem anyHW_first {i : Nat} {oi : Oper} {v : Value} (hi : ops[i]? = some oi) (hsel : ∀ (j : Nat) (o : Oper) cs b, ops[j]? = some o → o.op ≠ .select cs b) (hQ : ∀ c a w, Q (.panic c) (a.put oi.dst v) w → Q (.panic c) a w)
    (hp : ∀ done', Closed md ops done' → L ∈ Region.ready md ops done' ∨ done'.getD L true = true → done'.getD i true = true) :
    ∀ (f : Nat) (done : Array Bool) (a : Act) (w : World), Closed md ops done →
      (∀ j oj, ops[j]? = some oj → j ≠ i → done.getD j true = false → (∀ e ∈ oj.after, Region.binds md e = true → e.on ≠ i) → oi.apart ops oj = true) →
      i ∈ Region.ready md ops done → YieldsIf P ops S oi v a → S w → anyHW n P md ops Q S L f (done.setIfInBounds i true) (a.put oi.dst v) w → anyHW n P md ops Q S L (f + 1) done a w := by
  intro f
  induction f with
  | zero =>
    intro done a w _ _ hr hy hS H
    refine ⟨fun h => absurd (h ▸ hr) (List.not_mem_nil), fun j hj => ?_⟩
    by_cases e : j = i
    · subst e; exact opIn_of_if hi hy hS ⟨fun _ _ => hS, H⟩
    · exact absurd (H.1 ▸ ready_mono hj e) (List.not_mem_nil)
  | succ f ih =>
    intro done a w hcl hfree hr hy hS H
    refine ⟨fun h => absurd (h ▸ hr) (List.not_mem_nil), fun j hj => ?_⟩
    by_cases e : j = i
    · subst e; exact opIn_of_if hi hy hS ⟨fun _ _ => hS, H⟩
    · have hun0 : done.getD i true = true → False := fun k1 => by
        have k0 := (mem_ready.1 hr).1
        rcases Nat.lt_or_ge i done.size with h' | h'
        · simp [h'] at k0 k1; rw [k0] at k1; cases k1
        · have hsz := k0; simp [Array.getElem?_eq_none h'] at hsz
      have hjL : j ≠ L := fun e => by
        subst e
        exact hun0 (hp done hcl (.inl hj))
      have hdL : done.getD L true = false := by
        cases hq : done.getD L true with
        | false => rfl
        | true => exact (hun0 (hp done hcl (.inr hq))).elim
      have hiL : i ≠ L := fun e => by
        subst e
        exact hun0 (hp done hcl (.inl hr))
      have eL : (done.setIfInBounds i true).getD L true = done.getD L true := getD_set_ne true hiL
      obtain ⟨hun, oj, hoj, hall⟩ := mem_ready.1 hj
      have hno : ∀ ed ∈ oj.after, Region.binds md ed = true → ed.on ≠ i := fun ed he hb heq => by
        have k1 := hall ed he hb
        have k0 := (mem_ready.1 hr).1
        rw [heq] at k1
        rcases Nat.lt_or_ge i done.size with h' | h'
        · simp [h'] at k0 k1; rw [k0] at k1; cases k1
        · simp [Array.getElem?_eq_none h'] at k1
      have hs := opIn_swap hoj (hfree j oj hoj e hun hno) (fun cs b => hsel i oi cs b hi) (fun cs b => hsel j oj cs b hoj) hQ hy (H.2 j (ready_mono hj e))
      refine wpOpIn_mono (fun a' w' q => ⟨fun k1 k2 => q.2.1 k1 (eL.trans k2), ih (done.setIfInBounds j true) a' w' (closed_step hcl hj) (fun k ok hk hki hku hkn => hfree k ok hk hki ?_ hkn) (ready_mono hr (Ne.symm e)) q.1 (q.2.1 hjL (eL.trans hdL)) ?_⟩) hs
      · by_cases hjk : j = k
        · subst hjk; exact hun
        · rw [getD_set_ne true hjk] at hku; exact hku
      · rw [Array.setIfInBounds_comm _ _ e]
        exact q.2.2
/-- Take number 'i' first. -/
theorem hw_take (l : List Nat) {i : Nat} {oi : Oper} {v : Value} {f : Nat} {done : Array Bool} {a : Act} {w : World} (hi : ops[i]? = some oi) (hs : Region.noSelect ops = true) (hf : Region.free md ops done i = true) (hr : (Region.ready md ops done).contains i = true)
    (hl : hops md ops L l = true) (hil : l.contains i = true) (hc : closedB md ops done = true) (ho : (ops[L]?).isSome = true)
    (hQ : ∀ c a w, Q (.panic c) (a.put oi.dst v) w → Q (.panic c) a w) (hg : oi.guard = none) (hy : ∀ W, S W → (execOp a.eval oi).run P W = .ok (.value v) W) (hS : S w)
    (h : anyHW n P md ops Q S L f (done.setIfInBounds i true) (a.put oi.dst v) w)   : anyHW n P md ops Q S L (f + 1) done a w :=
  anyHW_first hi (Region.noSelect_spec hs) hQ (fun done' hcl hL => by
    obtain ⟨o, h1⟩ := Option.isSome_iff_exists.1 ho
    refine hops_listed hcl l L o h1 (fun e he hb => ?_) hl i (by simpa using hil)
    rcases hL with hL | hL
    · obtain ⟨o', h1', h2⟩ := listed_of_ready hL
      rw [h1] at h1'; injection h1' with h1'; subst h1'
      exact h2 e he hb
    · exact hcl L o h1 hL e he hb) f done a w (closed_of hc) (Region.free_spec hi hf) (by simpa using hr) (.inl ⟨by simp [Region.wanted, hg], hy⟩) hS h
/-- One alone may come up. -/
theorem hw_step {i : Nat} {oi : Oper} {f : Nat} {done : Array Bool} {a : Act} {w : World} (hi : ops[i]? = some oi) (hg : oi.guard = none) (hr : Region.ready md ops done = [i])
    (h : ∀ K : Act → World → Prop, (∀ a' w', (i ≠ L → done.getD L true = false → S w') → anyHW n P md ops Q S L f (done.setIfInBounds i true) a' w' → K a' w') → Oper.wpIn Fence.wide n P oi a w K Q) : anyHW n P md ops Q S L (f + 1) done a w := by
  refine ⟨fun h0 => (by rw [hr] at h0; cases h0), fun j hj => ?_⟩
  rw [hr] at hj
  obtain rfl := List.mem_singleton.1 hj
  unfold wpOpIn
  rw [hi]
  show if Region.wanted oi (yielded ops a.tmps) = true then _ else _
  rw [if_pos (by simp [Region.wanted, hg])]
  exact h _ fun a' w' h1 h2 => ⟨h1, h2⟩
theorem hw_one {i : Nat} {oi : Oper} {f : Nat} {done : Array Bool} {a : Act} {w : World} (hi : ops[i]? = some oi) (hg : oi.guard = none) (hr : Region.ready md ops done = [i])
    (h : ∀ K : Act → World → Prop, (∀ a' w', S w' → anyHW n P md ops Q S L f (done.setIfInBounds i true) a' w' → K a' w') → Oper.wpIn Fence.wide n P oi a w K Q) : anyHW n P md ops Q S L (f + 1) done a w :=
  hw_step hi hg hr fun K hK => h K fun a' w' h1 h2 => hK a' w' (fun _ _ => h1) h2
/-- Number L, or one behind it: 'S' is wanted no more. -/
theorem hw_end {i : Nat} {oi : Oper} {f : Nat} {done : Array Bool} {a : Act} {w : World} (hi : ops[i]? = some oi) (hg : oi.guard = none) (hr : Region.ready md ops done = [i]) (hL : (i == L || done.getD L true) = true)
    (h : ∀ K : Act → World → Prop, (∀ a' w', anyHW n P md ops Q S L f (done.setIfInBounds i true) a' w' → K a' w') → Oper.wpIn Fence.wide n P oi a w K Q) : anyHW n P md ops Q S L (f + 1) done a w :=
  hw_step hi hg hr fun K hK => h K fun a' w' h2 => hK a' w' (fun h3 h4 => by
    rw [h4, Bool.or_false, beq_iff_eq] at hL
    exact absurd hL h3) h2
theorem hw_done {done : Array Bool} {a : Act} {w : World} (hr : Region.ready md ops done = []) (h : Q .normal a w) : ∀ f, anyHW n P md ops Q S L f done a w
  | 0 => ⟨hr, h⟩
  | _ + 1 => ⟨fun _ => h, by rw [hr]; simp⟩
end
end Go.Proofs.YtdjdiiibcocmpaaGreatDoor
/- Law 58, VerifierLines: what a round of a loop over an iterator leaves as it was, where it collects into a variable's box; what the iterator may go on from. Conditions: as the laws say. -/
namespace Go.Proofs.YtdjdiiibcocmpaaGreatDoor
open Go.RowKit Go.Lib
set_option maxRecDepth 1000000
set_option maxHeartbeats 3200000
/-- The block in which the slice lies that box B holds. -/
def outBlk (B : Nat) (w : World) : Option Nat := (w.cell? ⟨B, 0, none⟩).bind Value.ownBlock
theorem outBlk_same {B : Nat} {w w' : World} (h : w'.heap[B]? = w.heap[B]?) : outBlk B w' = outBlk B w := by
  unfold outBlk World.cell?
  rw [h]
/-- A round that collects into box B: all cells but the box and the slice's own block lie as they lay; the slice lies where it lay, or in a new block. -/
structure KO (B : Nat) (w w' : World) : Prop where
  size : w.heap.size ≤ w'.heap.size
  keep : ∀ k o, w.heap[k]? = some o → o.isCells = true → k ≠ B → outBlk B w ≠ some k → w'.heap[k]? = some o
  blk : outBlk B w' = outBlk B w ∨ ∃ k, outBlk B w' = some k ∧ w.heap.size ≤ k ∧ k < w'.heap.size
theorem lt_of_obj {w : World} {k : Nat} {o : Obj} (h : w.heap[k]? = some o) : k < w.heap.size := (Array.getElem?_eq_some_iff.1 h).1
theorem KO.trans {B : Nat} {w w1 w2 : World} (h : KO B w w1) (k : KO B w1 w2) : KO B w w2 where
  size := Nat.le_trans h.size k.size
  keep := fun i o hi hc hB ho => k.keep i o (h.keep i o hi hc hB ho) hc hB (by
    rcases h.blk with e | ⟨j, e, h1, _⟩
    · rw [e]; exact ho
    · rw [e]; intro e'; injection e' with e'; have := lt_of_obj hi; omega)
  blk := by
    rcases k.blk with e | ⟨j, e, h1, h2⟩
    · rcases h.blk with e1 | ⟨j, e1, h1, h2⟩
      · exact .inl (e.trans e1)
      · exact .inr ⟨j, e.trans e1, h1, Nat.lt_of_lt_of_le h2 k.size⟩
    · exact .inr ⟨j, e, Nat.le_trans h.size h1, h2⟩
theorem KO.putObj {B : Nat} {w : World} (hB : B < w.heap.size) (W : World) (l : Nat) (o o' : Obj) (hl : w.heap.size ≤ l) (ho : W.heap[l]? = some o) (hc : o.isCells = false) (_ : o.isWalk = false) : KO B W (W.putObj l o') where
  size := (grownBy_putObj' W l o').size
  keep := fun k o1 hk hk1 _ _ => ((grownBy_putObj' W l o').block k (lt_of_obj hk) (fun e => by
    injection e with e
    subst e
    rw [ho] at hk
    injection hk with hk
    subst hk
    rw [hc] at hk1
    exact Bool.noConfusion hk1)).trans hk
  blk := .inl (outBlk_same ((grownBy_putObj' W l o').block B (by have := lt_of_obj ho; omega) (fun e => by injection e with e; omega)))
/-- What the iterator goes on from: all cells that lay in W0 lie, but for box B; the collected slice lies in a block made since. -/
structure Stays (W0 : World) (B : Nat) (wr : World) : Prop where
  size : W0.heap.size ≤ wr.heap.size
  keep : ∀ k o, W0.heap[k]? = some o → o.isCells = true → k ≠ B → wr.heap[k]? = some o
  blk : ∀ k, outBlk B wr = some k → W0.heap.size ≤ k ∧ k < wr.heap.size
theorem Stays.refl {W0 : World} {B : Nat} (h : outBlk B W0 = none) : Stays W0 B W0 := ⟨Nat.le_refl _, fun _ _ h _ _ => h, fun k e => by rw [h] at e; cases e⟩
theorem Stays.below {W0 wr w' : World} {B : Nat} (h : Stays W0 B wr) (hB : B < W0.heap.size) (hb : Below wr.heap.size wr w') : Stays W0 B w' where
  size := Nat.le_trans h.size hb.size
  keep := fun k o hk hc hne => (hb.block k (lt_of_obj (h.keep k o hk hc hne))).trans (h.keep k o hk hc hne)
  blk := fun k e => by
    rw [outBlk_same (hb.block B (Nat.lt_of_lt_of_le hB h.size))] at e
    exact ⟨(h.blk k e).1, Nat.lt_of_lt_of_le (h.blk k e).2 hb.size⟩
theorem Stays.ko {W0 wr w' : World} {B : Nat} (h : Stays W0 B wr) (hk : KO B wr w') : Stays W0 B w' where
  size := Nat.le_trans h.size hk.size
  keep := fun k o ho hc hne => hk.keep k o (h.keep k o ho hc hne) hc hne (fun e => by have := (h.blk k e).1; have := lt_of_obj ho; omega)
  blk := fun k e => by
    rcases hk.blk with e1 | ⟨j, e1, h1, h2⟩
    · rw [e1] at e; exact ⟨(h.blk k e).1, Nat.lt_of_lt_of_le (h.blk k e).2 hk.size⟩
    · rw [e1] at e; injection e with e; subst e; exact ⟨Nat.le_trans h.size h1, h2⟩
theorem Stays.cell {W0 wr : World} {B b o : Nat} {x : Value} (h : Stays W0 B wr) (hc : W0.cell? ⟨b, o, none⟩ = some x) (hne : b ≠ B) : wr.cell? ⟨b, o, none⟩ = some x := by
  obtain ⟨ob, h1, h2⟩ := cells_of_cell hc
  rw [← hc]
  unfold World.cell?
  rw [h.keep b ob h1 h2 hne, show W0.heap[(⟨b, o, none⟩ : Addr).block]? = some ob from h1]
theorem KO.cell {wr w' : World} {B b o : Nat} {x : Value} (h : KO B wr w') (hc : wr.cell? ⟨b, o, none⟩ = some x) (hne : b ≠ B) (hno : outBlk B wr ≠ some b) : w'.cell? ⟨b, o, none⟩ = some x := by
  obtain ⟨ob, h1, h2⟩ := cells_of_cell hc
  rw [← hc]
  unfold World.cell?
  rw [h.keep b ob h1 h2 hne hno, show wr.heap[(⟨b, o, none⟩ : Addr).block]? = some ob from h1]
theorem Stays.tab {w W0 wr : World} {B : Nat} (hT : TabW w) (hb : Below w.heap.size w W0) (hB : w.heap.size ≤ B) (h : Stays W0 B wr) : TabW wr := by
  unfold TabW Lib.TabIs World.var? at hT ⊢
  cases hg : Tryz.prog.globalNamed "internal/strconv.uint64pow10" with
  | none => rw [hg] at hT; cases hT
  | some g =>
    rw [hg] at hT
    simp only [Option.bind_some] at hT ⊢
    cases ho : w.heap[g]? with
    | none => rw [ho] at hT; cases hT
    | some o =>
      have hlt := lt_of_obj ho
      rw [ho] at hT
      cases o with
      | cells cs t fr =>
        rw [h.keep g _ ((hb.block g hlt).trans ho) rfl (by omega)]
        exact hT
      | _ => cases hT
/-- A list of the iterator's own, apart from the collected slice. -/
structure LiesApart (B : Nat) (o : Value) (L : List ByteArray) (wr : World) : Prop where
  own : ∃ base, B < base ∧ wr.ownsRow base 9 1 o L.length (strsV L)
  apart : ∀ g, o.ownBlock = some g → outBlk B wr ≠ some g
theorem ownsRow_ko {B : Nat} {w w' : World} (hk : KO B w w') {base : Nat} {e : TypeId} {size : Nat} {v : Value} {n : Nat} {xs : List Value} (h : w.ownsRow base e size v n xs) (hB : B < base) (ha : ∀ g, v.ownBlock = some g → outBlk B w ≠ some g) : w'.ownsRow base e size v n xs := by
  obtain ⟨h1, h2⟩ := h
  refine ⟨h1, ?_⟩
  rcases h2 with h2 | ⟨g, cap, cur, e1, e2, e3, e4⟩
  · exact .inl h2
  · exact .inr ⟨g, cap, cur, e1, e2, hk.keep g _ e3 rfl (by omega) (ha g (by rw [e1]; rfl)), e4⟩
theorem LiesApart.ko {B : Nat} {o : Value} {L : List ByteArray} {w w' : World} (h : LiesApart B o L w) (hk : KO B w w') : LiesApart B o L w' where
  own := by obtain ⟨base, h1, h2⟩ := h.own; exact ⟨base, h1, ownsRow_ko hk h2 h1 h.apart⟩
  apart := fun g hg => by
    rcases hk.blk with e | ⟨j, e, h1, _⟩
    · rw [e]; exact h.apart g hg
    · rw [e]; intro e'; injection e' with e'
      obtain ⟨base, _, h2⟩ := h.own
      have := (h2.lt g hg).2
      omega
theorem LiesApart.cell {B : Nat} {o : Value} {L : List ByteArray} {w : World} (h : LiesApart B o L w) {j : Nat} (hj : j < L.length) : ∃ g cap, o = .slice (some ⟨g, 0, none⟩) L.length cap ∧ w.cell? ⟨g, j, none⟩ = some (.string L[j]) := by
  obtain ⟨base, _, h2⟩ := h.own
  rcases h2.2 with ⟨_, h0⟩ | ⟨g, cap, _, rfl, _⟩
  · omega
  · refine ⟨g, cap, rfl, ?_⟩
    rw [h2.cellAt j (by omega), strsV, List.getElem?_map, List.getElem?_eq_getElem hj]
    rfl
theorem LiesApart.made {B : Nat} {o : Value} {L : List ByteArray} {W0 w w' : World} (hs : Stays W0 B w) (hB : B < W0.heap.size) (h : w'.ownsRow w.heap.size 9 1 o L.length (strsV L)) (hb : Below w.heap.size w w') : LiesApart B o L w' where
  own := ⟨w.heap.size, Nat.lt_of_lt_of_le hB hs.size, h⟩
  apart := fun g hg e => by
    rw [outBlk_same (hb.block B (Nat.lt_of_lt_of_le hB hs.size))] at e
    have := (hs.blk g e).2
    have := (h.lt g hg).1
    omega
/-- Behind an append into the box: what the round owes. -/
theorem KO.appended {B n₀ : Nat} {t e : TypeId} {size : Nat} {W w1 : World} {v v' : Value} {k : Nat} {xs : List Value} {tmp : Obj} (hv : Boxed W B t v) (hte : t ≠ e) (hrow : W.ownsRow n₀ e size v k xs)
    (hgrow : (W.alloc tmp).grownBy w1 v.ownBlock) (hblk : v'.ownBlock = v.ownBlock ∨ v'.ownBlock = some (W.alloc tmp).heap.size) (hlt : ∀ g, v'.ownBlock = some g → g < w1.heap.size) : KO B W (w1.setCell ⟨B, 0, none⟩ v') := by
  have hv1 : Boxed w1 B t v := (hv.alloc tmp).kept hgrow (hv.not_row hte hrow)
  have ho : outBlk B W = v.ownBlock := by unfold outBlk; rw [hv.cell]; rfl
  have ho' : outBlk B (w1.setCell ⟨B, 0, none⟩ v') = v'.ownBlock := by unfold outBlk; rw [(hv1.set v').cell]; rfl
  have hsz := (grownBy_setCell' w1 B v').size
  have hs1 : W.heap.size + 1 ≤ w1.heap.size := by have := hgrow.size; rwa [World.size_alloc] at this
  refine ⟨by omega, fun i o hi hc hne hno => ?_, ?_⟩
  · have hi1 : (W.alloc tmp).heap[i]? = some o := (Below.heap_alloc W tmp i (lt_of_obj hi)).trans hi
    have hi2 : w1.heap[i]? = some o := (hgrow.block i (lt_of_obj hi1) (fun e => hno (ho.trans e.symm))).trans hi1
    exact ((grownBy_setCell' w1 B v').block i (lt_of_obj hi2) (fun e => hne (by injection e))).trans hi2
  · rw [ho, ho']
    rcases hblk with e | e
    · exact .inl e
    · refine .inr ⟨_, e, by rw [World.size_alloc]; omega, ?_⟩
      have := hlt _ e
      omega
section
variable {F : Fence} {n : Nat} {P : Program}
/-- A struct is read out of a row, inside a fence. -/
theorem wpListIn_load_at {w : World} {ops : Array Oper} {rest : List Oper} {o : Oper} {a : Act} {Q : Exit → Act → World → Prop} (hgd : o.guard = none) (p : Operand) (ty : TypeId) (ho : o.op = .load ty p)
    (b off : Nat) (cs : List Value) (d : TypeDesc) (hp : a.eval p = .pointer (some ⟨b, off, none⟩)) (hc : ∀ j v, cs[j]? = some v → w.cell? ⟨b, off + j, none⟩ = some v) (hu : P.underlying ty = some d)
    (hd : (match d with | .struct _ | .array _ _ => true | _ => false) = true) (hi : (P.info? ty).map (·.size) = some cs.length) (h : wpListIn F n P ops Q rest (a.put o.dst (.agg cs.toArray)) w) : wpListIn F n P ops Q (o :: rest) a w :=
  wpListIn_plain hgd fun K hK => by
    have hr := run_loadVar_at (P := P) w ⟨b, off, none⟩ ty cs d (fun j v hv => by
      have hadd : (⟨b, off, none⟩ : Addr).add j = ⟨b, off + j, none⟩ := by unfold Addr.add; split <;> simp_all
      rw [hadd]; exact hc j v hv) hu hd hi
    refine ⟨by intro f hf; simp [Oper.about, ho] at hf, ?_⟩
    rw [Oper.semAt_plain F _ _ (by rw [ho]; intro c hc'; cases hc')]
    unfold execOp
    simp only [ho, Instr.loadAt, Instr.sureAddr, Sem.run_bind, Sem.run_pure, Result.andThen_ok, hp, hr]
    exact hK _ _ h
end
end Go.Proofs.YtdjdiiibcocmpaaGreatDoor
/- Law 58, VerifierLines: the program's iterator over the lines of a report: it yields them one after the other, to whatever loop collects them. Conditions: the table of powers of ten; the report's rows lie in the world; at most 100 findings, losses and differences of each view, paths of at most 500 bytes, numbers that are ints. -/
namespace Go.Proofs.YtdjdiiibcocmpaaGreatDoor
open Go.RowKit Go.Lib
set_option linter.unusedSimpArgs false
set_option linter.unusedVariables false
set_option maxRecDepth 1000000
set_option maxHeartbeats 6400000
theorem pre_find (s v : Int) (fs : List FindT) (ds : Nat → List (Int × ByteArray)) (ls : List LossT) (k : Nat) : (headLine s v :: (fs.map findLine).take k) <+: repLines s v fs ds ls := by
  unfold repLines
  rw [List.append_assoc]
  exact List.IsPrefix.trans ⟨(fs.map findLine).drop k, by rw [List.cons_append, List.take_append_drop]⟩ (List.prefix_append _ _)
theorem views_pre (ds : Nat → List (Int × ByteArray)) (a : Nat) : ∀ b, a ≤ b → viewsUpto ds a <+: viewsUpto ds b
  | 0, h => by obtain rfl : a = 0 := by omega
               exact List.prefix_refl _
  | b + 1, h => by
    by_cases e : a = b + 1
    · subst e; exact List.prefix_refl _
    · exact (views_pre ds a b (by omega)).trans (List.prefix_append _ _)
theorem pre_view (s v : Int) (fs : List FindT) (ds : Nat → List (Int × ByteArray)) (ls : List LossT) (k j : Nat) (hk : k < 4) : ((headLine s v :: fs.map findLine) ++ viewsUpto ds k) ++ (((ds k).map diffLine).map (viewLine k)).take j <+: repLines s v fs ds ls := by
  unfold repLines
  refine List.IsPrefix.trans ?_ (List.prefix_append _ _)
  rw [List.append_assoc, List.prefix_append_right_inj]
  refine List.IsPrefix.trans ?_ (views_pre ds (k + 1) 4 (by omega))
  show viewsUpto ds k ++ _ <+: viewsUpto ds k ++ _
  rw [List.prefix_append_right_inj]
  exact List.take_prefix _ _
theorem pre_lost (s v : Int) (fs : List FindT) (ds : Nat → List (Int × ByteArray)) (ls : List LossT) (j : Nat) : ((headLine s v :: fs.map findLine) ++ viewsUpto ds 4) ++ ((ls.map lossLine).map lostLine).take j <+: repLines s v fs ds ls := by
  unfold repLines
  rw [List.prefix_append_right_inj]
  exact List.take_prefix _ _
theorem len_of_pre {L R : List ByteArray} {x : ByteArray} (h : (L ++ [x]) <+: R) : L.length < R.length := by
  have := h.length_le
  simp at this
  omega
theorem ix_word0 (w : World) : Sem.run Tryz.prog (Instr.index 132 (.agg #[.string ⟨#[105, 115, 111]⟩, .string ⟨#[106, 111, 108, 105, 101, 116]⟩, .string ⟨#[114, 111, 99, 107, 114, 105, 100, 103, 101]⟩, .string ⟨#[117, 100, 102]⟩]) (.int .i64 ((0 : Nat) : Int))) w = .ok (.string (vwords.getD 0 ⟨#[]⟩)) w := by kernel_rfl
theorem ix_word1 (w : World) : Sem.run Tryz.prog (Instr.index 132 (.agg #[.string ⟨#[105, 115, 111]⟩, .string ⟨#[106, 111, 108, 105, 101, 116]⟩, .string ⟨#[114, 111, 99, 107, 114, 105, 100, 103, 101]⟩, .string ⟨#[117, 100, 102]⟩]) (.int .i64 ((1 : Nat) : Int))) w = .ok (.string (vwords.getD 1 ⟨#[]⟩)) w := by kernel_rfl
theorem ix_word2 (w : World) : Sem.run Tryz.prog (Instr.index 132 (.agg #[.string ⟨#[105, 115, 111]⟩, .string ⟨#[106, 111, 108, 105, 101, 116]⟩, .string ⟨#[114, 111, 99, 107, 114, 105, 100, 103, 101]⟩, .string ⟨#[117, 100, 102]⟩]) (.int .i64 ((2 : Nat) : Int))) w = .ok (.string (vwords.getD 2 ⟨#[]⟩)) w := by kernel_rfl
theorem ix_word3 (w : World) : Sem.run Tryz.prog (Instr.index 132 (.agg #[.string ⟨#[105, 115, 111]⟩, .string ⟨#[106, 111, 108, 105, 101, 116]⟩, .string ⟨#[114, 111, 99, 107, 114, 105, 100, 103, 101]⟩, .string ⟨#[117, 100, 102]⟩]) (.int .i64 ((3 : Nat) : Int))) w = .ok (.string (vwords.getD 3 ⟨#[]⟩)) w := by kernel_rfl
theorem ix_word (k : Nat) (hk : k < 4) (w : World) : Sem.run Tryz.prog (Instr.index 132 (.agg #[.string ⟨#[105, 115, 111]⟩, .string ⟨#[106, 111, 108, 105, 101, 116]⟩, .string ⟨#[114, 111, 99, 107, 114, 105, 100, 103, 101]⟩, .string ⟨#[117, 100, 102]⟩]) (.int .i64 (k : Int))) w = .ok (.string (vwords.getD k ⟨#[]⟩)) w := by
  have key : k = 0 ∨ k = 1 ∨ k = 2 ∨ k = 3 := by omega
  rcases key with rfl | rfl | rfl | rfl
  · exact ix_word0 w
  · exact ix_word1 w
  · exact ix_word2 w
  · exact ix_word3 w
theorem findRow {w : World} {B : Nat} {s v : Int} {fs : List FindT} {ds : Nat → List (Int × ByteArray)} {ls : List LossT} {fa : Option Addr} {fc : Nat} {A : Nat → Option Addr} {C : Nat → Nat} {la : Option Addr} {lc : Nat}
    (h : RepW w B s v fs ds ls fa fc A C la lc) {k : Nat} (hk : k < fs.length) : ∃ b off, fa = some ⟨b, off, none⟩ ∧ b < B ∧ ∀ j x, ([.int .i64 fs[k].1, .int .i64 fs[k].2.1, .int .i64 fs[k].2.2] : List Value)[j]? = some x → w.cell? ⟨b, off + k * 3 + j, none⟩ = some x := by
  have hlenf : (findCells fs).length = fs.length := by simp [findCells]
  obtain ⟨a, c, ha, hrow⟩ := h.rf
  injection ha with ha _ _
  obtain ⟨b, off, h1, h2, h3⟩ := hrow k (by omega)
  exact ⟨b, off, ha.trans h1, h2, fun j x hx => h3 j x (by simpa [findCells] using hx)⟩
theorem repIx {s v : Int} {fs : List FindT} {ds : Nat → List (Int × ByteArray)} {ls : List LossT} {fa : Option Addr} {fc : Nat} {A : Nat → Option Addr} {C : Nat → Nat} {la : Option Addr} {lc k : Nat} (hk : k < 4) :
    (repOf s v fs ds ls fa fc A C la lc)[3 + k]? = some (.slice (A k) (ds k).length (C k)) := by
  have key : k = 0 ∨ k = 1 ∨ k = 2 ∨ k = 3 := by omega
  rcases key with rfl | rfl | rfl | rfl <;> rfl
theorem p_lines1 (n l : Nat) (s v : Int) (fs : List FindT) (ds : Nat → List (Int × ByteArray)) (ls : List LossT) (fa : Option Addr) (fc : Nat) (A : Nat → Option Addr) (C : Nat → Nat) (la : Option Addr) (lc : Nat) (B Bn Bo : Nat) (w W : World)
    (hT : TabW w) (hbW : Below w.heap.size w W) (hBo : w.heap.size ≤ Bo) (hBoW : Bo < W.heap.size) (hout : outBlk Bo W = none) (hR : RepW W B s v fs ds ls fa fc A C la lc) (hB : B ≤ w.heap.size)
    (hbox : Box 27 Bn (repOf s v fs ds ls fa fc A C la lc) W) (hBn : Bn ≠ Bo) (J Jx : List ByteArray → World → Prop) (hJ : AbidesFrom W.heap.size J)
    (hY : ∀ pre x W1, J pre W1 → pre.length < (repLines s v fs ds ls).length → YieldAt Fence.wide (n - 1) Tryz.prog l #[.string x] W1 fun e W' => (e = .returned (.bool true) ∧ J (pre ++ [x]) W' ∧ KO Bo W1 W') ∨ (e = .returned (.bool false) ∧ Jx (pre ++ [x]) W'))
    (h0 : J [] W) :
    CallsIn Fence.wide n Tryz.prog 35 #[.func (.yield l) #[] #[], .pointer (some ⟨Bn, 0, none⟩)] W fun e W' => (∃ v, e = .returned v) ∧ ((∃ xs, xs = repLines s v fs ds ls ∧ J xs W') ∨ (∃ pre, pre <+: repLines s v fs ds ls ∧ Jx pre W')) := by
  have JB := Lib.hid (show ∀ pre a b, J pre a → Below a.heap.size a b → J pre b from fun pre a b h hb => hJ pre a b none h ⟨hb.os, hb.tape, hb.output, hb.size, fun k hk _ => hb.block k hk⟩ (fun r e => by cases e))
  have HY := Lib.hid hY
  have HBo := Lib.hid hBoW
  have HST0 := Lib.hid (Stays.refl hout)
  have HJ0 := Lib.hid h0
  have HTS := Lib.hid (show ∀ wr, Stays W Bo wr → TabW wr from fun wr h => h.tab hT hbW hBo)
  have HTB := Lib.hid (show ∀ W', Below W.heap.size W W' → TabW W' from fun W' h => HTS.out _ ((Stays.refl hout).below hBoW h))
  have HRS := Lib.hid (show ∀ wr, Stays W Bo wr → RepW wr B s v fs ds ls fa fc A C la lc from fun wr h => hR.stay fun b o x hlt hc => h.cell hc (by omega))
  have HBC := Lib.hid (show ∀ wr, Stays W Bo wr → ∀ i x, (repOf s v fs ds ls fa fc A C la lc)[i]? = some x → wr.cell? ⟨Bn, i, none⟩ = some x from fun wr h i x hx => h.cell (hbox.cell i x hx) hBn)
  have HBW := Lib.hid (show ∀ wr, Stays W Bo wr → B ≤ wr.heap.size from fun wr h => Nat.le_trans hB (Nat.le_trans hbW.size h.size))
  have HC1 := Lib.hid (fun (W' : World) (hW : TabW W') => p_itoa s hR.hs W' hW)
  have HC2 := Lib.hid (fun (W' : World) (hW : TabW W') => p_itoa v hR.hv W' hW)
  have z1 := itoa_length_le s hR.hs.1 hR.hs.2
  have z2 := itoa_length_le v hR.hv.1 hR.hv.2
  have HN0 := Lib.hid (show ([] : List ByteArray).length < (repLines s v fs ds ls).length from len_of_pre (x := headLine s v) (pre_find s v fs ds ls 0))
  have HMK := Lib.hid (show ∀ W', Below W.heap.size W W' → W'.cell? ⟨Bn, 0, none⟩ = some (.int .i64 s) ∧ W'.cell? ⟨Bn, 1, none⟩ = some (.int .i64 v) from fun W' hW => ⟨(hbox.step hW).cell 0 _ rfl, (hbox.step hW).cell 1 _ rfl⟩)
  have hnf := hR.nf
  have g1 : ¬ (9223372036854775807 < 8 + (itoa s).length) := by omega
  have g2 : ¬ (9223372036854775807 < 8 + (itoa s).length + 7) := by omega
  have g3 : ¬ (9223372036854775807 < 8 + (itoa s).length + 7 + (itoa v).length) := by omega
  clear hT hbW hBo hBoW hout hR hB hbox hBn hJ hY h0
  refine callsIn_of_wp Tryz.func35 rfl trivial ?_ rfl
  simp only [Tryz.ntmps35, List.size_toArray, List.length_cons, List.length_nil, Nat.reduceAdd, Nat.reduceSub, Array.replicate_succ, Array.replicate_zero, List.push_toArray, List.append_toArray, List.nil_append, List.cons_append]
  apply wpIn_seq_k
  intro K hK
  apply wpIn_seq_k
  intro K1 hK1
  refine wpIn_region_any (by kernel_rfl) (anyIn_of_hw (S := fun W : World => W.cell? ⟨Bn, 0, none⟩ = some (.int .i64 s) ∧ W.cell? ⟨Bn, 1, none⟩ = some (.int .i64 v)) (L := 10) _ _ _ _ ?_)
  change anyHW _ _ _ _ _ _ _ _ _ _ (World.drew W)
  have HS : (fun W : World => W.cell? ⟨Bn, 0, none⟩ = some (.int .i64 s) ∧ W.cell? ⟨Bn, 1, none⟩ = some (.int .i64 v)) (World.drew W) := HMK.out W (Below.refl _ _)
  refine hw_take [0] (i := 0) (v := (.func (.yield l) #[] #[])) rfl (by kernel_rfl) (by kernel_rfl) (by kernel_rfl) (by kernel_rfl) (by kernel_rfl) (by kernel_rfl) (by kernel_rfl) (fun _ _ _ h => h) rfl (fun W hW => ?_) HS ?_
  · obtain ⟨hW0, hW1⟩ := hW
    clear HS
    go_simp
  try simp only [Act.put, List.setIfInBounds_toArray, List.set_cons_zero, List.set_cons_succ]
  refine hw_take [9, 5, 4, 3, 2, 1] (i := 1) (v := (.pointer (some ⟨Bn, 0, none⟩))) rfl (by kernel_rfl) (by kernel_rfl) (by kernel_rfl) (by kernel_rfl) (by kernel_rfl) (by kernel_rfl) (by kernel_rfl) (fun _ _ _ h => h) rfl (fun W hW => ?_) HS ?_
  · obtain ⟨hW0, hW1⟩ := hW
    clear HS
    go_simp
  try simp only [Act.put, List.setIfInBounds_toArray, List.set_cons_zero, List.set_cons_succ]
  refine hw_take [9, 5, 4, 3, 2, 1] (i := 2) (v := .int .i64 s) rfl (by kernel_rfl) (by kernel_rfl) (by kernel_rfl) (by kernel_rfl) (by kernel_rfl) (by kernel_rfl) (by kernel_rfl) (fun _ _ _ h => h) rfl (fun W hW => ?_) HS ?_
  · obtain ⟨hW0, hW1⟩ := hW
    clear HS
    go_simp
  try simp only [Act.put, List.setIfInBounds_toArray, List.set_cons_zero, List.set_cons_succ]
  refine hw_take [9, 8, 7, 6] (i := 6) (v := (.pointer (some ⟨Bn, 1, none⟩))) rfl (by kernel_rfl) (by kernel_rfl) (by kernel_rfl) (by kernel_rfl) (by kernel_rfl) (by kernel_rfl) (by kernel_rfl) (fun _ _ _ h => h) rfl (fun W hW => ?_) HS ?_
  · obtain ⟨hW0, hW1⟩ := hW
    clear HS
    go_simp
  try simp only [Act.put, List.setIfInBounds_toArray, List.set_cons_zero, List.set_cons_succ]
  refine hw_take [9, 8, 7, 6] (i := 7) (v := .int .i64 v) rfl (by kernel_rfl) (by kernel_rfl) (by kernel_rfl) (by kernel_rfl) (by kernel_rfl) (by kernel_rfl) (by kernel_rfl) (fun _ _ _ h => h) rfl (fun W hW => ?_) HS ?_
  · obtain ⟨hW0, hW1⟩ := hW
    clear HS
    go_simp
  try simp only [Act.put, List.setIfInBounds_toArray, List.set_cons_zero, List.set_cons_succ]
  refine hw_one (i := 3) rfl rfl (by kernel_rfl) (fun K3 hK3 => ?_)
  go_simp
  refine ⟨trivial, fun h => (by cases h), ?_⟩
  refine (callsIn_wide.2 (HC1.out _ (HTB.out _ (below_drew (Below.refl W.heap.size W))))).mono ?_
  rintro e w6 ⟨rfl, hb6⟩
  have FR6 := Lib.hid (show Below W.heap.size W w6 from by first | exact hb6 | exact (below_drew (Below.refl W.heap.size W)).trans hb6)
  clear hb6
  replace HS : (fun W : World => W.cell? ⟨Bn, 0, none⟩ = some (.int .i64 s) ∧ W.cell? ⟨Bn, 1, none⟩ = some (.int .i64 v)) w6 := HMK.out _ FR6.out
  refine hK3 _ _ HS ?_
  clear hK3
  try simp only [Act.put, List.setIfInBounds_toArray, List.set_cons_zero, List.set_cons_succ]
  refine hw_take [9, 5, 4, 3, 2, 1] (i := 4) (v := (.string (⟨#[115, 101, 115, 115, 105, 111, 110, 32]⟩ ++ ⟨(itoa s).toArray⟩))) rfl (by kernel_rfl) (by kernel_rfl) (by kernel_rfl) (by kernel_rfl) (by kernel_rfl) (by kernel_rfl) (by kernel_rfl) (fun _ _ _ h => h) rfl (fun W hW => ?_) HS ?_
  · obtain ⟨hW0, hW1⟩ := hW
    clear HS
    go_simp
  try simp only [Act.put, List.setIfInBounds_toArray, List.set_cons_zero, List.set_cons_succ]
  refine hw_take [9, 5, 4, 3, 2, 1] (i := 5) (v := (.string ((⟨#[115, 101, 115, 115, 105, 111, 110, 32]⟩ ++ ⟨(itoa s).toArray⟩) ++ ⟨#[32, 118, 105, 101, 119, 115, 32]⟩))) rfl (by kernel_rfl) (by kernel_rfl) (by kernel_rfl) (by kernel_rfl) (by kernel_rfl) (by kernel_rfl) (by kernel_rfl) (fun _ _ _ h => h) rfl (fun W hW => ?_) HS ?_
  · obtain ⟨hW0, hW1⟩ := hW
    clear HS
    go_simp
  try simp only [Act.put, List.setIfInBounds_toArray, List.set_cons_zero, List.set_cons_succ]
  refine hw_one (i := 8) rfl rfl (by kernel_rfl) (fun K8 hK8 => ?_)
  go_simp
  refine ⟨trivial, fun h => (by cases h), ?_⟩
  refine (callsIn_wide.2 (HC2.out _ (HTB.out _ FR6.out))).mono ?_
  rintro e w7 ⟨rfl, hb7⟩
  have FR7 := Lib.hid (show Below W.heap.size W w7 from FR6.out.trans (hb7.mono FR6.out.size))
  clear hb7
  replace HS : (fun W : World => W.cell? ⟨Bn, 0, none⟩ = some (.int .i64 s) ∧ W.cell? ⟨Bn, 1, none⟩ = some (.int .i64 v)) w7 := HMK.out _ FR7.out
  refine hK8 _ _ HS ?_
  clear hK8
  try simp only [Act.put, List.setIfInBounds_toArray, List.set_cons_zero, List.set_cons_succ]
  refine hw_take [9, 5, 4, 3, 2, 1] (i := 9) (v := (.string (((⟨#[115, 101, 115, 115, 105, 111, 110, 32]⟩ ++ ⟨(itoa s).toArray⟩) ++ ⟨#[32, 118, 105, 101, 119, 115, 32]⟩) ++ ⟨(itoa v).toArray⟩))) rfl (by kernel_rfl) (by kernel_rfl) (by kernel_rfl) (by kernel_rfl) (by kernel_rfl) (by kernel_rfl) (by kernel_rfl) (fun _ _ _ h => h) rfl (fun W hW => ?_) HS ?_
  · obtain ⟨hW0, hW1⟩ := hW
    clear HS
    go_simp
  try simp only [Act.put, List.setIfInBounds_toArray, List.set_cons_zero, List.set_cons_succ]
  have hJ7 := JB.out _ _ _ HJ0.out FR7.out
  have hst7 := Stays.below HST0.out HBo.out FR7.out
  obtain ⟨yf, yt, ya, yb, hy, hYR⟩ := HY.out [] (((⟨#[115, 101, 115, 115, 105, 111, 110, 32]⟩ ++ ⟨(itoa s).toArray⟩) ++ ⟨#[32, 118, 105, 101, 119, 115, 32]⟩) ++ ⟨(itoa v).toArray⟩) w7 hJ7 HN0.out
  refine hw_end (i := 10) rfl rfl (by kernel_rfl) (by kernel_rfl) (fun K10 hK10 => ?_)
  go_simp
  refine ⟨fun h => (by cases h), ?_⟩
  refine hYR.mono ?_
  rintro e w8 (⟨rfl, hJ8, hk8⟩ | ⟨rfl, hJx8⟩)
  all_goals
    refine hK10 _ _ ?_
    clear hK10 hYR hy
    try simp only [Act.put, List.setIfInBounds_toArray, List.set_cons_zero, List.set_cons_succ]
    refine hw_end (i := 11) rfl rfl (by kernel_rfl) (by kernel_rfl) (fun K11 hK11 => ?_)
    go_simp
    refine hK11 _ _ ?_
    clear hK11
    try simp only [Act.put, List.setIfInBounds_toArray, List.set_cons_zero, List.set_cons_succ]
    refine hw_done (by kernel_rfl) ?_ _
  rotate_left
  · gi_wp2
    refine bodyPost_ret (results_none rfl _ _ _) rfl ?_
    exact ⟨⟨_, rfl⟩, .inr ⟨_, pre_find s v fs ds ls 0, hJx8⟩⟩
  have HJ8 := Lib.hid (show J (headLine s v :: (fs.map findLine).take 0) w8 from hJ8)
  have HST8 := Lib.hid (hst7.ko hk8)
  have c2 := HBC.out _ HST8.out 2 _ rfl
  clear FR6 FR7 HC1 HC2 HMK HS g1 g2 g3 z1 z2 hJ7 hst7 hJ8 hk8 HN0 HTB HJ0 HST0
  gi_wp2
  gi_loopw [26] (fun i wr => ∃ k : Nat, i = .int .i64 k ∧ k ≤ fs.length ∧ J (headLine s v :: (fs.map findLine).take k) wr ∧ Stays W Bo wr) (fun i _ => fs.length - (RowKit.intOf i).toNat)
  case atStart => exact ⟨0, rfl, Nat.zero_le _, HJ8.out, HST8.out⟩
  case round =>
    clear HJ8 HST8 c2
    obtain ⟨k, rfl, hk, hJ, hst⟩ := hrel
    by_cases hlt : k < fs.length
    · have hi' : (k : Int) < fs.length := by omega
      obtain ⟨b, off, rfl, hbB, hcell⟩ := findRow (HRS.out _ hst) hlt
      obtain ⟨j1, j2, j3⟩ := (HRS.out _ hst).jf fs[k] (List.getElem_mem hlt)
      have HL := Lib.hid (show headLine s v :: (fs.map findLine).take (k + 1) = (headLine s v :: (fs.map findLine).take k) ++ [((((⟨#[102, 105, 110, 100, 105, 110, 103, 32]⟩ ++ ⟨(itoa fs[k].1).toArray⟩) ++ ⟨#[32]⟩) ++ ⟨(itoa fs[k].2.1).toArray⟩) ++ ⟨#[32]⟩) ++ ⟨(itoa fs[k].2.2).toArray⟩] from finds_snoc s v fs k hlt)
      have HP := Lib.hid (HL.out ▸ pre_find s v fs ds ls (k + 1))
      have HLN := Lib.hid (len_of_pre HP.out)
      generalize headLine s v :: (fs.map findLine).take k = L at *
      have HC1 := Lib.hid (fun (W' : World) (hW : TabW W') => p_itoa fs[k].1 j1 W' hW)
      have HC2 := Lib.hid (fun (W' : World) (hW : TabW W') => p_itoa fs[k].2.1 j2 W' hW)
      have HC3 := Lib.hid (fun (W' : World) (hW : TabW W') => p_itoa fs[k].2.2 j3 W' hW)
      have z1 := itoa_length_le fs[k].1 j1.1 j1.2
      have z2 := itoa_length_le fs[k].2.1 j2.1 j2.2
      have z3 := itoa_length_le fs[k].2.2 j3.1 j3.2
      generalize fs[k].1 = p at *
      generalize fs[k].2.1 = q at *
      generalize fs[k].2.2 = r at *
      clear j1 j2 j3
      have HCELL := Lib.hid hcell
      have HJ := Lib.hid hJ
      have HST := Lib.hid hst
      clear hcell hJ hst
      gi_upto_region 4 with (first
        | (refine wpListIn_load_at rfl _ _ rfl b (off + k * 3) [.int .i64 p, .int .i64 q, .int .i64 r] _ rfl HCELL.out Tryz.underlying81 rfl find_size ?_)
        | fail)
      have hbox2 : Box 81 wr.heap.size [.int .i64 p, .int .i64 q, .int .i64 r] (wr.alloc (.cells #[.int .i64 p, .int .i64 q, .int .i64 r] 81)) := heap_alloc_last _ _
      have hbel2 := below_alloc1 wr (.cells #[.int .i64 p, .int .i64 q, .int .i64 r] 81)
      generalize wr.alloc (.cells #[.int .i64 p, .int .i64 q, .int .i64 r] 81) = w2 at hbox2 hbel2 ⊢
      have HJ2 := Lib.hid (JB.out _ _ _ HJ.out hbel2)
      have HST2 := Lib.hid (HST.out.below HBo.out hbel2)
      have HTB := Lib.hid (show ∀ W', Below w2.heap.size w2 W' → TabW W' from fun W' h => HTS.out _ (HST2.out.below HBo.out h))
      have HMK := Lib.hid (show ∀ W, Below w2.heap.size w2 W → W.cell? ⟨wr.heap.size, 0, none⟩ = some (.int .i64 p) ∧ W.cell? ⟨wr.heap.size, 1, none⟩ = some (.int .i64 q) ∧ W.cell? ⟨wr.heap.size, 2, none⟩ = some (.int .i64 r) from fun W hW => ⟨(hbox2.step hW).cell 0 _ rfl, (hbox2.step hW).cell 1 _ rfl, (hbox2.step hW).cell 2 _ rfl⟩)
      clear hbox2 hbel2 HCELL HJ HST
      generalize wr.heap.size = g at *
      have g1 : ¬ (9223372036854775807 < 8 + (itoa p).length) := by omega
      have g2 : ¬ (9223372036854775807 < 8 + (itoa p).length + 1) := by omega
      have g3 : ¬ (9223372036854775807 < 8 + (itoa p).length + 1 + (itoa q).length) := by omega
      have g4 : ¬ (9223372036854775807 < 8 + (itoa p).length + 1 + (itoa q).length + 1) := by omega
      have g5 : ¬ (9223372036854775807 < 8 + (itoa p).length + 1 + (itoa q).length + 1 + (itoa r).length) := by omega
      refine wpIn_region_any (by kernel_rfl) (anyIn_of_hw (S := fun W : World => W.cell? ⟨g, 0, none⟩ = some (.int .i64 p) ∧ W.cell? ⟨g, 1, none⟩ = some (.int .i64 q) ∧ W.cell? ⟨g, 2, none⟩ = some (.int .i64 r)) (L := 15) _ _ _ _ ?_)
      change anyHW _ _ _ _ _ _ _ _ _ _ (World.drew w2)
      have HS : (fun W : World => W.cell? ⟨g, 0, none⟩ = some (.int .i64 p) ∧ W.cell? ⟨g, 1, none⟩ = some (.int .i64 q) ∧ W.cell? ⟨g, 2, none⟩ = some (.int .i64 r)) (World.drew w2) := HMK.out w2 (Below.refl _ _)
      refine hw_take [0] (i := 0) (v := (.func (.yield l) #[] #[])) rfl (by kernel_rfl) (by kernel_rfl) (by kernel_rfl) (by kernel_rfl) (by kernel_rfl) (by kernel_rfl) (by kernel_rfl) (fun _ _ _ h => h) rfl (fun W hW => ?_) HS ?_
      · obtain ⟨hW0, hW1, hW2⟩ := hW
        clear HS
        go_simp
      try simp only [Act.put, List.setIfInBounds_toArray, List.set_cons_zero, List.set_cons_succ]
      refine hw_take [14, 10, 9, 5, 4, 3, 2, 1] (i := 1) (v := (.pointer (some ⟨g, 0, none⟩))) rfl (by kernel_rfl) (by kernel_rfl) (by kernel_rfl) (by kernel_rfl) (by kernel_rfl) (by kernel_rfl) (by kernel_rfl) (fun _ _ _ h => h) rfl (fun W hW => ?_) HS ?_
      · obtain ⟨hW0, hW1, hW2⟩ := hW
        clear HS
        go_simp
      try simp only [Act.put, List.setIfInBounds_toArray, List.set_cons_zero, List.set_cons_succ]
      refine hw_take [14, 10, 9, 5, 4, 3, 2, 1] (i := 2) (v := .int .i64 p) rfl (by kernel_rfl) (by kernel_rfl) (by kernel_rfl) (by kernel_rfl) (by kernel_rfl) (by kernel_rfl) (by kernel_rfl) (fun _ _ _ h => h) rfl (fun W hW => ?_) HS ?_
      · obtain ⟨hW0, hW1, hW2⟩ := hW
        clear HS
        go_simp
      try simp only [Act.put, List.setIfInBounds_toArray, List.set_cons_zero, List.set_cons_succ]
      refine hw_take [14, 10, 9, 8, 7, 6] (i := 6) (v := (.pointer (some ⟨g, 1, none⟩))) rfl (by kernel_rfl) (by kernel_rfl) (by kernel_rfl) (by kernel_rfl) (by kernel_rfl) (by kernel_rfl) (by kernel_rfl) (fun _ _ _ h => h) rfl (fun W hW => ?_) HS ?_
      · obtain ⟨hW0, hW1, hW2⟩ := hW
        clear HS
        go_simp
      try simp only [Act.put, List.setIfInBounds_toArray, List.set_cons_zero, List.set_cons_succ]
      refine hw_take [14, 10, 9, 8, 7, 6] (i := 7) (v := .int .i64 q) rfl (by kernel_rfl) (by kernel_rfl) (by kernel_rfl) (by kernel_rfl) (by kernel_rfl) (by kernel_rfl) (by kernel_rfl) (fun _ _ _ h => h) rfl (fun W hW => ?_) HS ?_
      · obtain ⟨hW0, hW1, hW2⟩ := hW
        clear HS
        go_simp
      try simp only [Act.put, List.setIfInBounds_toArray, List.set_cons_zero, List.set_cons_succ]
      refine hw_take [14, 13, 12, 11] (i := 11) (v := (.pointer (some ⟨g, 2, none⟩))) rfl (by kernel_rfl) (by kernel_rfl) (by kernel_rfl) (by kernel_rfl) (by kernel_rfl) (by kernel_rfl) (by kernel_rfl) (fun _ _ _ h => h) rfl (fun W hW => ?_) HS ?_
      · obtain ⟨hW0, hW1, hW2⟩ := hW
        clear HS
        go_simp
      try simp only [Act.put, List.setIfInBounds_toArray, List.set_cons_zero, List.set_cons_succ]
      refine hw_take [14, 13, 12, 11] (i := 12) (v := .int .i64 r) rfl (by kernel_rfl) (by kernel_rfl) (by kernel_rfl) (by kernel_rfl) (by kernel_rfl) (by kernel_rfl) (by kernel_rfl) (fun _ _ _ h => h) rfl (fun W hW => ?_) HS ?_
      · obtain ⟨hW0, hW1, hW2⟩ := hW
        clear HS
        go_simp
      try simp only [Act.put, List.setIfInBounds_toArray, List.set_cons_zero, List.set_cons_succ]
      refine hw_one (i := 3) rfl rfl (by kernel_rfl) (fun K3 hK3 => ?_)
      go_simp
      refine ⟨trivial, fun h => (by cases h), ?_⟩
      refine (callsIn_wide.2 (HC1.out _ (HTB.out _ (below_drew (Below.refl w2.heap.size w2))))).mono ?_
      rintro e w5 ⟨rfl, hb5⟩
      have FR5 := Lib.hid (show Below w2.heap.size w2 w5 from by first | exact hb5 | exact (below_drew (Below.refl w2.heap.size w2)).trans hb5)
      clear hb5
      replace HS : (fun W : World => W.cell? ⟨g, 0, none⟩ = some (.int .i64 p) ∧ W.cell? ⟨g, 1, none⟩ = some (.int .i64 q) ∧ W.cell? ⟨g, 2, none⟩ = some (.int .i64 r)) w5 := HMK.out _ FR5.out
      refine hK3 _ _ HS ?_
      clear hK3
      try simp only [Act.put, List.setIfInBounds_toArray, List.set_cons_zero, List.set_cons_succ]
      refine hw_take [14, 10, 9, 5, 4, 3, 2, 1] (i := 4) (v := (.string (⟨#[102, 105, 110, 100, 105, 110, 103, 32]⟩ ++ ⟨(itoa p).toArray⟩))) rfl (by kernel_rfl) (by kernel_rfl) (by kernel_rfl) (by kernel_rfl) (by kernel_rfl) (by kernel_rfl) (by kernel_rfl) (fun _ _ _ h => h) rfl (fun W hW => ?_) HS ?_
      · obtain ⟨hW0, hW1, hW2⟩ := hW
        clear HS
        go_simp
      try simp only [Act.put, List.setIfInBounds_toArray, List.set_cons_zero, List.set_cons_succ]
      refine hw_take [14, 10, 9, 5, 4, 3, 2, 1] (i := 5) (v := (.string ((⟨#[102, 105, 110, 100, 105, 110, 103, 32]⟩ ++ ⟨(itoa p).toArray⟩) ++ ⟨#[32]⟩))) rfl (by kernel_rfl) (by kernel_rfl) (by kernel_rfl) (by kernel_rfl) (by kernel_rfl) (by kernel_rfl) (by kernel_rfl) (fun _ _ _ h => h) rfl (fun W hW => ?_) HS ?_
      · obtain ⟨hW0, hW1, hW2⟩ := hW
        clear HS
        go_simp
      try simp only [Act.put, List.setIfInBounds_toArray, List.set_cons_zero, List.set_cons_succ]
      refine hw_one (i := 8) rfl rfl (by kernel_rfl) (fun K8 hK8 => ?_)
      go_simp
      refine ⟨trivial, fun h => (by cases h), ?_⟩
      refine (callsIn_wide.2 (HC2.out _ (HTB.out _ FR5.out))).mono ?_
      rintro e w6 ⟨rfl, hb6⟩
      have FR6 := Lib.hid (show Below w2.heap.size w2 w6 from FR5.out.trans (hb6.mono FR5.out.size))
      clear hb6
      replace HS : (fun W : World => W.cell? ⟨g, 0, none⟩ = some (.int .i64 p) ∧ W.cell? ⟨g, 1, none⟩ = some (.int .i64 q) ∧ W.cell? ⟨g, 2, none⟩ = some (.int .i64 r)) w6 := HMK.out _ FR6.out
      refine hK8 _ _ HS ?_
      clear hK8
      try simp only [Act.put, List.setIfInBounds_toArray, List.set_cons_zero, List.set_cons_succ]
      refine hw_take [14, 10, 9, 5, 4, 3, 2, 1] (i := 9) (v := (.string (((⟨#[102, 105, 110, 100, 105, 110, 103, 32]⟩ ++ ⟨(itoa p).toArray⟩) ++ ⟨#[32]⟩) ++ ⟨(itoa q).toArray⟩))) rfl (by kernel_rfl) (by kernel_rfl) (by kernel_rfl) (by kernel_rfl) (by kernel_rfl) (by kernel_rfl) (by kernel_rfl) (fun _ _ _ h => h) rfl (fun W hW => ?_) HS ?_
      · obtain ⟨hW0, hW1, hW2⟩ := hW
        clear HS
        go_simp
      try simp only [Act.put, List.setIfInBounds_toArray, List.set_cons_zero, List.set_cons_succ]
      refine hw_take [14, 10, 9, 5, 4, 3, 2, 1] (i := 10) (v := (.string ((((⟨#[102, 105, 110, 100, 105, 110, 103, 32]⟩ ++ ⟨(itoa p).toArray⟩) ++ ⟨#[32]⟩) ++ ⟨(itoa q).toArray⟩) ++ ⟨#[32]⟩))) rfl (by kernel_rfl) (by kernel_rfl) (by kernel_rfl) (by kernel_rfl) (by kernel_rfl) (by kernel_rfl) (by kernel_rfl) (fun _ _ _ h => h) rfl (fun W hW => ?_) HS ?_
      · obtain ⟨hW0, hW1, hW2⟩ := hW
        clear HS
        go_simp
      try simp only [Act.put, List.setIfInBounds_toArray, List.set_cons_zero, List.set_cons_succ]
      refine hw_one (i := 13) rfl rfl (by kernel_rfl) (fun K13 hK13 => ?_)
      go_simp
      refine ⟨trivial, fun h => (by cases h), ?_⟩
      refine (callsIn_wide.2 (HC3.out _ (HTB.out _ FR6.out))).mono ?_
      rintro e w7 ⟨rfl, hb7⟩
      have FR7 := Lib.hid (show Below w2.heap.size w2 w7 from FR6.out.trans (hb7.mono FR6.out.size))
      clear hb7
      replace HS : (fun W : World => W.cell? ⟨g, 0, none⟩ = some (.int .i64 p) ∧ W.cell? ⟨g, 1, none⟩ = some (.int .i64 q) ∧ W.cell? ⟨g, 2, none⟩ = some (.int .i64 r)) w7 := HMK.out _ FR7.out
      refine hK13 _ _ HS ?_
      clear hK13
      try simp only [Act.put, List.setIfInBounds_toArray, List.set_cons_zero, List.set_cons_succ]
      refine hw_take [14, 10, 9, 5, 4, 3, 2, 1] (i := 14) (v := (.string (((((⟨#[102, 105, 110, 100, 105, 110, 103, 32]⟩ ++ ⟨(itoa p).toArray⟩) ++ ⟨#[32]⟩) ++ ⟨(itoa q).toArray⟩) ++ ⟨#[32]⟩) ++ ⟨(itoa r).toArray⟩))) rfl (by kernel_rfl) (by kernel_rfl) (by kernel_rfl) (by kernel_rfl) (by kernel_rfl) (by kernel_rfl) (by kernel_rfl) (fun _ _ _ h => h) rfl (fun W hW => ?_) HS ?_
      · obtain ⟨hW0, hW1, hW2⟩ := hW
        clear HS
        go_simp
      try simp only [Act.put, List.setIfInBounds_toArray, List.set_cons_zero, List.set_cons_succ]
      have hJ7 := JB.out _ _ _ HJ2.out FR7.out
      have hst7 := Stays.below HST2.out HBo.out FR7.out
      obtain ⟨yf, yt, ya, yb, hy, hYR⟩ := HY.out L (((((⟨#[102, 105, 110, 100, 105, 110, 103, 32]⟩ ++ ⟨(itoa p).toArray⟩) ++ ⟨#[32]⟩) ++ ⟨(itoa q).toArray⟩) ++ ⟨#[32]⟩) ++ ⟨(itoa r).toArray⟩) w7 hJ7 HLN.out
      refine hw_end (i := 15) rfl rfl (by kernel_rfl) (by kernel_rfl) (fun K15 hK15 => ?_)
      go_simp
      refine ⟨fun h => (by cases h), ?_⟩
      refine hYR.mono ?_
      rintro e w8 (⟨rfl, hJ8, hk8⟩ | ⟨rfl, hJx8⟩)
      all_goals
        refine hK15 _ _ ?_
        clear hK15 hYR hy
        try simp only [Act.put, List.setIfInBounds_toArray, List.set_cons_zero, List.set_cons_succ]
        refine hw_end (i := 16) rfl rfl (by kernel_rfl) (by kernel_rfl) (fun K16 hK16 => ?_)
        go_simp
        refine hK16 _ _ ?_
        clear hK16
        try simp only [Act.put, List.setIfInBounds_toArray, List.set_cons_zero, List.set_cons_succ]
        refine hw_done (by kernel_rfl) ?_ _
      rotate_left
      · gi_wp2
        refine bodyPost_ret (results_none rfl _ _ _) rfl ?_
        exact ⟨⟨_, rfl⟩, .inr ⟨_, HP.out, hJx8⟩⟩
      have hst8 := hst7.ko hk8
      clear FR5 FR6 FR7 HC1 HC2 HC3 HMK HTB HS
      gi_wp2
      go_roundw
      case rel => exact ⟨k + 1, by go_num, by omega, by rw [HL.out]; exact hJ8, hst8⟩
      case measure => simp [RowKit.intOf]; omega
    · have hk' : k = fs.length := by omega
      subst hk'
      rw [List.take_of_length_le (by rw [List.length_map]; exact Nat.le_refl _)] at hJ
      have hge : (fs.length : Int) ≤ fs.length := Int.le_refl _
      gi_wp2
      gi_loopw [49] (fun i wr => ∃ k : Nat, i = .int .i64 k ∧ k ≤ 4 ∧ J (((headLine s v :: fs.map findLine) ++ viewsUpto ds k)) wr ∧ Stays W Bo wr) (fun i _ => 4 - (RowKit.intOf i).toNat)
      case atStart => exact ⟨0, rfl, by omega, by rw [viewsUpto, List.append_nil]; exact hJ, hst⟩
      case round =>
        clear hJ hst
        obtain ⟨k, rfl, hk, hJ, hst⟩ := hrel
        by_cases hlt : k < 4
        · have hi' : (k : Int) < 4 := by omega
          have cv := HBC.out _ hst (3 + k) _ (repIx hlt)
          have HJ := Lib.hid hJ
          have HST := Lib.hid hst
          clear hJ hst
          gi_wp2
          obtain ⟨vw, hvw⟩ : ∃ vw, vw = vwords.getD k ⟨#[]⟩ := ⟨_, rfl⟩
          have hvz : vw.size ≤ 9 := hvw ▸ vword_size k
          rw [ix_word k hlt, ← hvw]
          replace hvw := Lib.hid hvw
          simp only [Result.andThen, Oper.uponIn]
          gi_wp2_with (first
            | (refine ⟨trivial, fun h => (by cases h), ?_⟩; gi_at_call 37; refine (callsIn_wide.2 (p_fmtdiff (ds k) _ B _ ((HRS.out _ HST.out).rd k hlt) (HBW.out _ HST.out) ((HRS.out _ HST.out).nd k hlt) ((HRS.out _ HST.out).jd k hlt))).mono ?_; rintro e w5 ⟨o, rfl, ho5, hb5⟩; obtain ⟨ao, co, rfl⟩ := own_slice ho5)
            | fail)
          have HJ5 := Lib.hid (JB.out _ _ _ HJ.out hb5)
          have HST5 := Lib.hid (HST.out.below HBo.out hb5)
          have ho5' : w5.ownsRow wr.heap.size 9 1 (.slice ao (ds k).length co) ((ds k).map diffLine).length (strsV ((ds k).map diffLine)) := by rw [List.length_map]; exact ho5
          have HA5 := Lib.hid (LiesApart.made HST.out HBo.out ho5' hb5)
          clear ho5 ho5' hb5 cv HJ HST
          gi_loopw [59] (fun i wq => ∃ j : Nat, i = .int .i64 j ∧ j ≤ (ds k).length ∧ J (((headLine s v :: fs.map findLine) ++ viewsUpto ds k) ++ (((ds k).map diffLine).map (viewLine k)).take j) wq ∧ Stays W Bo wq ∧ LiesApart Bo (.slice ao (ds k).length co) ((ds k).map diffLine) wq) (fun i _ => (ds k).length - (RowKit.intOf i).toNat)
          case atStart => exact ⟨0, rfl, Nat.zero_le _, by rw [List.take_zero, List.append_nil]; exact HJ5.out, HST5.out, HA5.out⟩
          case round =>
            clear HJ5 HST5 HA5
            obtain ⟨j, rfl, hj, hJ, hst, hA⟩ := hrel
            by_cases hjl : j < (ds k).length
            · have hij : (j : Int) < (ds k).length := by omega
              have hdk := (HRS.out _ hst).nd k hlt
              obtain ⟨g, cap, ho, hc⟩ := hA.cell (j := j) (by rw [List.length_map]; exact hjl)
              injection ho with ho1 ho2 ho3
              subst ho1
              subst ho3
              clear ho2
              have hxz : (((ds k).map diffLine)[j]'(by rw [List.length_map]; exact hjl)).size ≤ 520 := by rw [List.getElem_map]; exact diffLine_size _ ((HRS.out _ hst).jd k hlt _ (List.getElem_mem hjl))
              have HL := Lib.hid (show ((headLine s v :: fs.map findLine) ++ viewsUpto ds k) ++ (((ds k).map diffLine).map (viewLine k)).take (j + 1) = (((headLine s v :: fs.map findLine) ++ viewsUpto ds k) ++ (((ds k).map diffLine).map (viewLine k)).take j) ++ [(vw ++ ⟨#[32]⟩) ++ (((ds k).map diffLine)[j]'(by rw [List.length_map]; exact hjl))] from by
                rw [map_take_snoc (viewLine k) _ j (by rw [List.length_map]; exact hjl), ← List.append_assoc, hvw.out]; rfl)
              have HP := Lib.hid (HL.out ▸ pre_view s v fs ds ls k (j + 1) hlt)
              have HLN := Lib.hid (len_of_pre HP.out)
              generalize ((headLine s v :: fs.map findLine) ++ viewsUpto ds k) ++ (((ds k).map diffLine).map (viewLine k)).take j = L at *
              generalize ((ds k).map diffLine)[j]'(by rw [List.length_map]; exact hjl) = x at *
              have HA := Lib.hid hA
              have HST := Lib.hid hst
              obtain ⟨yf, yt, ya, yb, hy, hYR⟩ := HY.out L ((vw ++ ⟨#[32]⟩) ++ x) wr hJ HLN.out
              have HYR := Lib.hid hYR
              clear hA hst hYR hJ
              gi_wp2
              refine ⟨fun h => (by cases h), ?_⟩
              refine HYR.out.mono ?_
              rintro e w8 (⟨rfl, hJ8, hk8⟩ | ⟨rfl, hJx8⟩)
              · have HJ8 := Lib.hid hJ8
                have HK8 := Lib.hid hk8
                clear hJ8 hk8 hy hc HYR
                gi_wp2
                go_roundw
                case rel => exact ⟨j + 1, by go_num, by omega, by rw [HL.out]; exact HJ8.out, HST.out.ko HK8.out, HA.out.ko HK8.out⟩
                case measure => simp [RowKit.intOf]; omega
              · clear hy hc HYR
                gi_wp2
                refine bodyPost_ret (results_none rfl _ _ _) rfl ?_
                exact ⟨⟨_, rfl⟩, .inr ⟨_, HP.out, hJx8⟩⟩
            · have hjk : j = (ds k).length := by omega
              subst hjk
              rw [List.take_of_length_le (by rw [List.length_map, List.length_map]; exact Nat.le_refl _)] at hJ
              have hge : ((ds k).length : Int) ≤ (ds k).length := Int.le_refl _
              have HJ9 := Lib.hid hJ
              have HST := Lib.hid hst
              clear hJ hA hst
              gi_wp2
              go_roundw
              case rel => exact ⟨k + 1, by go_num, by omega, by rw [viewsUpto, ← List.append_assoc]; exact HJ9.out, HST.out⟩
              case measure => simp [RowKit.intOf]; omega
        · have hk4 : k = 4 := by omega
          subst hk4
          have c7 := HBC.out _ hst 7 _ rfl
          have HJ := Lib.hid hJ
          have HST := Lib.hid hst
          have HPL := Lib.hid (fun (W' : World) (h : Stays W Bo W') => p_fmtloss ls _ B W' (HTS.out _ h) (HRS.out _ h).rl (HBW.out _ h) (HRS.out _ h).nl (HRS.out _ h).jl)
          clear hJ hst
          gi_wp2_with (first
            | (refine ⟨trivial, fun h => (by cases h), ?_⟩; gi_at_call 38; refine (callsIn_wide.2 (HPL.out _ HST.out)).mono ?_; rintro e w5 ⟨o, rfl, ho5, hb5⟩; obtain ⟨ao, co, rfl⟩ := own_slice ho5)
            | fail)
          have HJ5 := Lib.hid (JB.out _ _ _ HJ.out hb5)
          have HST5 := Lib.hid (HST.out.below HBo.out hb5)
          have ho5' : w5.ownsRow wr.heap.size 9 1 (.slice ao ls.length co) (ls.map lossLine).length (strsV (ls.map lossLine)) := by rw [List.length_map]; exact ho5
          have HA5 := Lib.hid (LiesApart.made HST.out HBo.out ho5' hb5)
          clear ho5 ho5' hb5 c7 HJ HST HPL
          gi_loopw [76] (fun i wq => ∃ j : Nat, i = .int .i64 j ∧ j ≤ ls.length ∧ J (((headLine s v :: fs.map findLine) ++ viewsUpto ds 4) ++ ((ls.map lossLine).map lostLine).take j) wq ∧ Stays W Bo wq ∧ LiesApart Bo (.slice ao ls.length co) (ls.map lossLine) wq) (fun i _ => ls.length - (RowKit.intOf i).toNat)
          case atStart => exact ⟨0, rfl, Nat.zero_le _, by rw [List.take_zero, List.append_nil]; exact HJ5.out, HST5.out, HA5.out⟩
          case round =>
            clear HJ5 HST5 HA5
            obtain ⟨j, rfl, hj, hJ, hst, hA⟩ := hrel
            by_cases hjl : j < ls.length
            · have hij : (j : Int) < ls.length := by omega
              have hdk := (HRS.out _ hst).nl
              obtain ⟨g, cap, ho, hc⟩ := hA.cell (j := j) (by rw [List.length_map]; exact hjl)
              injection ho with ho1 ho2 ho3
              subst ho1
              subst ho3
              clear ho2
              have hxz : ((ls.map lossLine)[j]'(by rw [List.length_map]; exact hjl)).size ≤ 560 := by rw [List.getElem_map]; exact lossLine_size _ ((HRS.out _ hst).jl _ (List.getElem_mem hjl))
              have HL := Lib.hid (show ((headLine s v :: fs.map findLine) ++ viewsUpto ds 4) ++ ((ls.map lossLine).map lostLine).take (j + 1) = (((headLine s v :: fs.map findLine) ++ viewsUpto ds 4) ++ ((ls.map lossLine).map lostLine).take j) ++ [⟨#[108, 111, 115, 116, 32]⟩ ++ ((ls.map lossLine)[j]'(by rw [List.length_map]; exact hjl))] from by
                rw [map_take_snoc lostLine _ j (by rw [List.length_map]; exact hjl), ← List.append_assoc]; rfl)
              have HP := Lib.hid (HL.out ▸ pre_lost s v fs ds ls (j + 1))
              have HLN := Lib.hid (len_of_pre HP.out)
              generalize ((headLine s v :: fs.map findLine) ++ viewsUpto ds 4) ++ ((ls.map lossLine).map lostLine).take j = L at *
              generalize (ls.map lossLine)[j]'(by rw [List.length_map]; exact hjl) = x at *
              have HA := Lib.hid hA
              have HST := Lib.hid hst
              obtain ⟨yf, yt, ya, yb, hy, hYR⟩ := HY.out L (⟨#[108, 111, 115, 116, 32]⟩ ++ x) wr hJ HLN.out
              have HYR := Lib.hid hYR
              clear hA hst hYR hJ
              gi_wp2
              refine ⟨fun h => (by cases h), ?_⟩
              refine HYR.out.mono ?_
              rintro e w8 (⟨rfl, hJ8, hk8⟩ | ⟨rfl, hJx8⟩)
              · have HJ8 := Lib.hid hJ8
                have HK8 := Lib.hid hk8
                clear hJ8 hk8 hy hc HYR
                gi_wp2
                go_roundw
                case rel => exact ⟨j + 1, by go_num, by omega, by rw [HL.out]; exact HJ8.out, HST.out.ko HK8.out, HA.out.ko HK8.out⟩
                case measure => simp [RowKit.intOf]; omega
              · clear hy hc HYR
                gi_wp2
                refine bodyPost_ret (results_none rfl _ _ _) rfl ?_
                exact ⟨⟨_, rfl⟩, .inr ⟨_, HP.out, hJx8⟩⟩
            · have hjk : j = ls.length := by omega
              subst hjk
              rw [List.take_of_length_le (by rw [List.length_map, List.length_map]; exact Nat.le_refl _)] at hJ
              have hge : (ls.length : Int) ≤ ls.length := Int.le_refl _
              have HJ9 := Lib.hid hJ
              clear hJ hA hst
              gi_wp2
              go_end0
              exact ⟨⟨_, rfl⟩, .inl ⟨_, rfl, HJ9.out⟩⟩
end Go.Proofs.YtdjdiiibcocmpaaGreatDoor
/- Law 58, VerifierLines: the program's lines of a report: a loop over its iterator collects them. Conditions: the table of powers of ten; the report's rows lie in the world; at most 100 findings, losses and differences of each view, paths of at most 500 bytes, numbers that are ints. -/
namespace Go.Proofs.YtdjdiiibcocmpaaGreatDoor
open Go.RowKit Go.Lib
set_option linter.unusedSimpArgs false
set_option linter.unusedVariables false
set_option maxRecDepth 1000000
set_option maxHeartbeats 6400000
attribute [local go_sem] Oper.semAt_some
theorem rep_size : (Tryz.prog.info? 27).map (·.size) = some 8 := by kernel_rfl
theorem p_lines (cs : List Value) (w : World) : Calls Tryz.prog 21 #[.agg cs.toArray] w fun e w' => e = .returned (.func (.func 35) #[] #[.pointer (some ⟨w.heap.size, 0, none⟩)]) ∧ w' = w.alloc (.cells cs.toArray 27) := by
  go_enter Tryz.func21, Tryz.ntmps21
  go_wp2
  go_ret
  exact ⟨rfl, rfl⟩
theorem p_fmt58 (s v : Int) (fs : List FindT) (ds : Nat → List (Int × ByteArray)) (ls : List LossT) (fa : Option Addr) (fc : Nat) (A : Nat → Option Addr) (C : Nat → Nat) (la : Option Addr) (lc : Nat) (B : Nat) (w : World)
    (hT : TabW w) (hR : RepW w B s v fs ds ls fa fc A C la lc) (hB : B ≤ w.heap.size) :
    Calls Tryz.prog 12 #[.agg (repOf s v fs ds ls fa fc A C la lc).toArray] w fun e w' => ∃ o, e = .returned o ∧ w'.ownsRow w.heap.size 9 1 o (repLines s v fs ds ls).length (strsV (repLines s v fs ds ls)) ∧ Below w.heap.size w w' := by
  obtain ⟨i0, hi, hz0, hz1, hz2⟩ := info_parts info_str
  have hlen8 : (repOf s v fs ds ls fa fc A C la lc).length = 8 := rfl
  have HLL := Lib.hid (show (repLines s v fs ds ls).length ≤ 601 by
    have h1 := viewsUpto_length ds hR.nd 4 (by omega)
    have h2 := hR.nf
    have h3 := hR.nl
    simp only [repLines, List.length_append, List.length_cons, List.length_map]
    omega)
  generalize hcs : repOf s v fs ds ls fa fc A C la lc = cs at *
  replace hcs := Lib.hid hcs
  refine (callsIn_wide (n := 3)).1 ?_
  refine callsIn_of_wp_marks Tryz.func12 rfl trivial ?_ rfl
  simp only [Tryz.ntmps12, List.size_toArray, List.length_cons, List.length_nil, Nat.reduceAdd, Nat.reduceSub, Array.replicate_succ, Array.replicate_zero, List.push_toArray, List.append_toArray, List.nil_append, List.cons_append]
  have hb1 : Box 27 w.heap.size cs (w.alloc (.cells cs.toArray 27)) := heap_alloc_last _ _
  have HB2 := Lib.hid (hb1.step (below_alloc1 _ (.cells #[.slice none 0 0] 39)))
  gi_wp2_with (first
    | (refine wpListIn_load_at rfl _ _ rfl w.heap.size 0 cs _ rfl (fun j x hx => by rw [Nat.zero_add]; exact HB2.out.cell j x (by simpa using hx)) Tryz.underlying27 rfl (by rw [hlen8]; exact rep_size) ?_)
    | (refine ⟨trivial, ?_⟩; gi_at_call 21; refine (callsIn_wide.2 (p_lines cs _)).mono ?_; rintro e w' ⟨rfl, rfl⟩)
    | fail)
  have bO : Boxed ((w.alloc (.cells cs.toArray 27)).alloc (.cells #[.slice none 0 0] 39)) (w.heap.size + 1) 39 (.slice none 0 0) := by
    have := Boxed.new (w.alloc (.cells cs.toArray 27)) 39 (.slice none 0 0)
    rwa [World.size_alloc] at this
  have hB3 : Below w.heap.size w (((w.alloc (.cells cs.toArray 27)).alloc (.cells #[.slice none 0 0] 39)).alloc (.cells cs.toArray 27)) := (((Below.refl _ w).alloc (Nat.le_refl _) _).alloc (by simp) _).alloc (by simp; omega) _
  have hb3 : Box 27 (w.heap.size + 2) cs (((w.alloc (.cells cs.toArray 27)).alloc (.cells #[.slice none 0 0] 39)).alloc (.cells cs.toArray 27)) := by
    have := heap_alloc_last ((w.alloc (.cells cs.toArray 27)).alloc (.cells #[.slice none 0 0] 39)) (.cells cs.toArray 27)
    rw [World.size_alloc, World.size_alloc] at this
    exact this
  have bO3 := bO.alloc (.cells cs.toArray 27)
  have hsz3 : (((w.alloc (.cells cs.toArray 27)).alloc (.cells #[.slice none 0 0] 39)).alloc (.cells cs.toArray 27)).heap.size = w.heap.size + 3 := by simp
  have hob : outBlk (w.heap.size + 1) (((w.alloc (.cells cs.toArray 27)).alloc (.cells #[.slice none 0 0] 39)).alloc (.cells cs.toArray 27)) = none := by unfold outBlk; rw [bO3.cell]; rfl
  generalize (((w.alloc (.cells cs.toArray 27)).alloc (.cells #[.slice none 0 0] 39)).alloc (.cells cs.toArray 27)) = w3 at *
  refine wpIn_rangeFunc_ownG (F := Fence.wide) (n := 3) rfl (by omega) (gf := 35) (lb := #[.pointer (some ⟨w.heap.size + 2, 0, none⟩)]) rfl trivial (enters_of Tryz.func35 (by kernel_rfl) rfl)
    (encs := fun x : ByteArray => #[Value.string x]) (Kp := KO (w.heap.size + 1)) (S := fun ys => ys = repLines s v fs ds ls) (Sp := fun pre => pre <+: repLines s v fs ds ls) (N := (repLines s v fs ds ls).length) (w0 := w3)
    (fun l J Jx W hW hJ _ hY h0 => p_lines1 _ l s v fs ds ls fa fc A C la lc B (w.heap.size + 2) (w.heap.size + 1) w W hT (hB3.trans (hW.mono (by omega))) (by omega) (Nat.lt_of_lt_of_le (by omega) hW.size)
      (by rw [outBlk_same (hW.block (w.heap.size + 1) (by omega))]; exact hob) (hR.below (hB3.trans (hW.mono (by omega))) hB) hB (by rw [hcs.out]; exact hb3.step hW) (by omega) J Jx hJ hY h0)
    (fun h k => h.trans k) (fun W l o o' hl ho hc hwk => KO.putObj (w := w3) (by omega) W l o o' hl ho hc hwk) (Below.refl _ _) (fun _ => rfl)
    (fun pre W => (∃ u, Boxed W (w.heap.size + 1) 39 u ∧ W.ownsRow w.heap.size 9 1 u pre.length (strsV pre) ∧ True) ∧ Below w.heap.size w W)
    (fun _ _ _ => False)
    (OwnFrom.and (Own.from (holdsRow_own w.heap.size (w.heap.size + 1) 39 9 1 (fun pre : List ByteArray => pre.length) (fun pre => strsV pre) (fun _ _ => True)) _) (ownFrom_below (Nat.le_refl _) (by omega)))
    (fun _ _ _ _ _ hs _ _ => hs)
    ⟨⟨_, bO3, World.ownsRow_nil _ _ _ _, trivial⟩, hB3⟩
    (fun x => { tmps := #[.agg cs.toArray, .pointer (some ⟨w.heap.size, 0, none⟩), .slice none 0 0, .pointer (some ⟨w.heap.size + 1, 0, none⟩), .string x, .agg cs.toArray, .func (.func 35) #[] #[.pointer (some ⟨w.heap.size + 2, 0, none⟩)], .string x, undef, undef, undef, undef, undef], defers := [] }) ?assign ?body ?done ?stop
  case assign =>
    intro l x W K hK
    gi_wp2
    exact hK
  case body =>
    rintro l pre x W ⟨⟨u, hv, hrow, _⟩, hB⟩ hlt
    have hc := hv.cell
    have hpl : pre.length < 601 := Nat.lt_of_lt_of_le hlt HLL.out
    gi_wp2_with (first
      | (gi_at_builtin; refine wpListIn_append_own_at _ rfl _ _ 39 rfl w.heap.size 9 i0 (.string ⟨#[]⟩) 1 16 Tryz.underlying39 hi hz0 hz1 hz2 rfl (by decide) _ _ _ rfl (hrow.alloc _) ⟨W.heap.size, 0, none⟩ 1 1 [.string x] rfl rfl (cell_one_new _ _ _) (by simp [Value.oneCell']) (by unfold maxLen; omega) (by omega) (by have := hB.size; simp; omega) ?_
         intro v' w1 hown' hgrow _ hblk
         obtain ⟨g', cap', rfl⟩ := ownsRow_succ hown'
         obtain ⟨hv1, hv2, hr2, hk2, hb2⟩ := hv.appended (by decide) hrow hB.size (Nat.le_succ _) hown' hgrow
         have hko := KO.appended hv (by decide) hrow hgrow hblk (fun g hg => (hown'.lt g hg).2)
         have hc1 := hv1.cell
         have hf1 := hv1.frozen)
      | fail)
    exact ⟨hk2.from _, hko, ⟨_, hv2, by rw [strsV_snoc, List.length_append]; exact hr2, trivial⟩, hB.trans hb2⟩
  case done =>
    rintro D ys W hD rfl ⟨⟨u, hv, hrow, _⟩, hB⟩ hK
    have hc := hv.cell
    gi_wp2
    refine ⟨by simp, .inl ⟨_, _, rfl, run_takeDeferred hK, ?_⟩⟩
    exact ⟨_, results_tmp rfl _ _ _, u, rfl, ownsRow_putObj hrow _ hK rfl, hB.trans (belowK_b (w := w) (Nat.le_refl _) W D _ _ (by omega) hK rfl rfl)⟩
  case stop =>
    rintro D c pre W _ _ h _
    exact h.elim
end Go.Proofs.YtdjdiiibcocmpaaGreatDoor
