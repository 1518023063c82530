/- Law 58, VerifierLines: the lines of a report as plain lists of texts; the reference's lines. Conditions: as each theorem says. -/
import Derived.Test.YtdjdiiibcocmpaaGreatDoorVb
import Derived.Maps.AppendAt
/- Law 58, VerifierLines: the lines of a report, as plain lists of texts; what a world holds of a report. Conditions: none. -/
namespace Go.Proofs.YtdjdiiibcocmpaaGreatDoor
open Go.RowKit Go.Lib
set_option maxRecDepth 1000000
set_option maxHeartbeats 3200000
/-- A finding: its rule, its block, its offset. -/
abbrev FindT := Int × Int × Int
def findCells (l : List FindT) : List (List Value) := l.map fun d => [.int .i64 d.1, .int .i64 d.2.1, .int .i64 d.2.2]
def sess : ByteArray := ⟨#[115, 101, 115, 115, 105, 111, 110, 32]⟩
def vws : ByteArray := ⟨#[32, 118, 105, 101, 119, 115, 32]⟩
def fnd : ByteArray := ⟨#[102, 105, 110, 100, 105, 110, 103, 32]⟩
def headLine (s v : Int) : ByteArray := ((⟨#[115, 101, 115, 115, 105, 111, 110, 32]⟩ ++ ⟨(itoa s).toArray⟩) ++ ⟨#[32, 118, 105, 101, 119, 115, 32]⟩) ++ ⟨(itoa v).toArray⟩
def findLine (f : FindT) : ByteArray := ((((⟨#[102, 105, 110, 100, 105, 110, 103, 32]⟩ ++ ⟨(itoa f.1).toArray⟩) ++ ⟨#[32]⟩) ++ ⟨(itoa f.2.1).toArray⟩) ++ ⟨#[32]⟩) ++ ⟨(itoa f.2.2).toArray⟩
def viewLine (k : Nat) (x : ByteArray) : ByteArray := (vwords.getD k ⟨#[]⟩ ++ ⟨#[32]⟩) ++ x
def lostLine (x : ByteArray) : ByteArray := ⟨#[108, 111, 115, 116, 32]⟩ ++ x
/-- The lines of the first so many views. -/
def viewsUpto (ds : Nat → List (Int × ByteArray)) : Nat → List ByteArray
  | 0 => []
  | k + 1 => viewsUpto ds k ++ ((ds k).map diffLine).map (viewLine k)
def repLines (s v : Int) (fs : List FindT) (ds : Nat → List (Int × ByteArray)) (ls : List LossT) : List ByteArray :=
  ((headLine s v :: fs.map findLine) ++ viewsUpto ds 4) ++ (ls.map lossLine).map lostLine
theorem vword_size (k : Nat) : (vwords.getD k ⟨#[]⟩).size ≤ 9 := by
  match k with
  | 0 => decide
  | 1 => decide
  | 2 => decide
  | 3 => decide
  | k + 4 =>
    have : vwords.getD (k + 4) ⟨#[]⟩ = ⟨#[]⟩ := by rw [List.getD_eq_getElem?_getD, List.getElem?_eq_none (by show 4 ≤ k + 4; omega)]; rfl
    rw [this]
    decide
theorem diffLine_size (d : Int × ByteArray) (h : d.2.size ≤ 500) : (diffLine d).size ≤ 520 := by
  have := (dword_size d.1).1
  have e2 : (⟨#[32, 46]⟩ : ByteArray).size = 2 := rfl
  have e1 : (⟨#[32]⟩ : ByteArray).size = 1 := rfl
  have e0 : (⟨#[]⟩ : ByteArray).size = 0 := rfl
  unfold diffLine
  split
  · split
    · rw [ByteArray.size_append, e2]; omega
    · rw [ByteArray.size_append, ByteArray.size_append, e1]; omega
  · rw [e0]; omega
theorem ba_size (l : List UInt8) : (⟨l.toArray⟩ : ByteArray).size = l.length := by show l.toArray.size = _; simp
theorem lossLine_size (x : LossT) (h : x.1.size ≤ 500 ∧ isInt x.2.1 ∧ isInt x.2.2) : (lossLine x).size ≤ 560 := by
  have z1 := itoa_length_le _ h.2.1.1 h.2.1.2
  have z2 := itoa_length_le _ h.2.2.1 h.2.2.2
  have e1 : (⟨#[32]⟩ : ByteArray).size = 1 := rfl
  unfold lossLine
  simp only [ByteArray.size_append, e1, ba_size]
  omega
theorem viewsUpto_length (ds : Nat → List (Int × ByteArray)) (h : ∀ k, k < 4 → (ds k).length ≤ 100) : ∀ k, k ≤ 4 → (viewsUpto ds k).length ≤ 100 * k
  | 0, _ => by simp [viewsUpto]
  | k + 1, hk => by
    have := viewsUpto_length ds h k (by omega)
    have := h k (by omega)
    simp only [viewsUpto, List.length_append, List.length_map]
    omega
/-- What the world holds of a report: its rows lie below B; the bounds. -/
structure RepW (w : World) (B : Nat) (s v : Int) (fs : List FindT) (ds : Nat → List (Int × ByteArray)) (ls : List LossT) (fa : Option Addr) (fc : Nat) (A : Nat → Option Addr) (C : Nat → Nat) (la : Option Addr) (lc : Nat) : Prop where
  hs : isInt s
  hv : isInt v
  nf : fs.length ≤ 100
  rf : RowV w (· < B) (.slice fa fs.length fc) 3 (findCells fs)
  jf : ∀ f ∈ fs, isInt f.1 ∧ isInt f.2.1 ∧ isInt f.2.2
  nd : ∀ k, k < 4 → (ds k).length ≤ 100
  rd : ∀ k, k < 4 → RowV w (· < B) (.slice (A k) (ds k).length (C k)) 2 (diffCells (ds k))
  jd : ∀ k, k < 4 → ∀ d ∈ ds k, d.2.size ≤ 500
  nl : ls.length ≤ 100
  rl : RowV w (· < B) (.slice la ls.length lc) 3 (lossCells ls)
  jl : ∀ d ∈ ls, d.1.size ≤ 500 ∧ isInt d.2.1 ∧ isInt d.2.2
theorem RowV.stay {w w' : World} {p : Nat → Prop} {v : Value} {m : Nat} {cs : List (List Value)} (h : RowV w p v m cs) (hb : ∀ b o x, p b → w.cell? ⟨b, o, none⟩ = some x → w'.cell? ⟨b, o, none⟩ = some x) : RowV w' p v m cs := by
  obtain ⟨a, c, rfl, h⟩ := h
  refine ⟨a, c, rfl, fun k hk => ?_⟩
  obtain ⟨b, off, h1, h2, h3⟩ := h k hk
  exact ⟨b, off, h1, h2, fun j x hx => hb _ _ _ h2 (h3 j x hx)⟩
theorem RepW.stay {w w' : World} {B : Nat} {s v : Int} {fs : List FindT} {ds : Nat → List (Int × ByteArray)} {ls : List LossT} {fa : Option Addr} {fc : Nat} {A : Nat → Option Addr} {C : Nat → Nat} {la : Option Addr} {lc : Nat}
    (h : RepW w B s v fs ds ls fa fc A C la lc) (hb : ∀ b o x, b < B → w.cell? ⟨b, o, none⟩ = some x → w'.cell? ⟨b, o, none⟩ = some x) : RepW w' B s v fs ds ls fa fc A C la lc :=
  { h with rf := h.rf.stay hb, rd := fun k hk => (h.rd k hk).stay hb, rl := h.rl.stay hb }
theorem RepW.below {w w' : World} {B n : Nat} {s v : Int} {fs : List FindT} {ds : Nat → List (Int × ByteArray)} {ls : List LossT} {fa : Option Addr} {fc : Nat} {A : Nat → Option Addr} {C : Nat → Nat} {la : Option Addr} {lc : Nat}
    (h : RepW w B s v fs ds ls fa fc A C la lc) (hb : Below n w w') (hn : B ≤ n) : RepW w' B s v fs ds ls fa fc A C la lc :=
  h.stay fun _ _ _ hlt hc => (hb.cell (Nat.lt_of_lt_of_le hlt hn)).trans hc
/-- The eight cells of a report. -/
def repOf (s v : Int) (fs : List FindT) (ds : Nat → List (Int × ByteArray)) (ls : List LossT) (fa : Option Addr) (fc : Nat) (A : Nat → Option Addr) (C : Nat → Nat) (la : Option Addr) (lc : Nat) : List Value :=
  repCells s v fa fs.length fc (A 0) (ds 0).length (C 0) (A 1) (ds 1).length (C 1) (A 2) (ds 2).length (C 2) (A 3) (ds 3).length (C 3) la ls.length lc
theorem r_dec (n : Int) (h : isInt n) (w : World) : Calls Tryz.prog 22 #[.int .i64 n] w fun e w' => e = .returned (.string ⟨(itoa n).toArray⟩) ∧ Below w.heap.size w w' :=
  (r_decimal _ n (Nat.le_refl _) h.1 h.2 w).mono fun e w' ⟨h1, m, h2⟩ => ⟨h1, by rw [h2]; exact below_drewN' (Below.refl _ w) m⟩
section
variable {P : Program}
/-- An append onto a row of the call's own, as one step of a held region; where the new row lies. -/
theorem step_append_at {ops : Array Oper} {o : Oper} {a : Act} {w : World} {K : Act → World → Prop} {Q : Exit → Act → World → Prop} {E : Prop} (hgd : o.guard = none) (s x : Operand) (t : TypeId)
    (ho : o.op = .call { callee := .builtin .append, args := #[s, x], argTypes := #[t, t] })
    (base : Nat) (e : TypeId) (i : TypeInfo) (z : Value) (size bytes : Nat) (ht : P.underlying t = some (.slice e)) (hi : P.info? e = some i) (hz : i.zero = some z)
    (hsize : i.size = size) (hby : i.bytes = bytes) (hzs : z.cells.size = size) (hsz : 0 < size)
    (v : Value) (n : Nat) (xs : List Value) (hs : a.eval s = v) (hown : w.ownsRow base e size v n xs)
    (ad : Addr) (m c : Nat) (news : List Value) (hx : a.eval x = .slice (some ad) m c) (hl : news.length = m * size) (hnews : ∀ j u, news[j]? = some u → w.cell? (ad.add j) = some u) (h1 : ∀ u ∈ news, u.oneCell' = true)
    (h63 : n + m ≤ maxLen) (hbytes : (n + m) * bytes ≤ 140737488355328) (hbase : base ≤ w.heap.size)
    (h : ∀ v' w', w'.ownsRow base e size v' (n + m) (xs ++ news) → w.grownBy w' v.ownBlock → (v'.ownBlock = v.ownBlock ∨ v'.ownBlock = some w.heap.size) → K (a.put o.dst v') w') :
    if Region.wanted o (yielded ops a.tmps) = true then Oper.wp P o a w K Q else E := by
  have hw : Region.wanted o (yielded ops a.tmps) = true := by simp [Region.wanted, hgd]
  rw [if_pos hw]
  obtain ⟨v', w', hr, h2, h3, _, h5⟩ := run_append_own_at (P := P) w base t o.type e i z size bytes ht hi hz hsize hby hzs hsz v n xs hown ad m c news hl hnews h1 h63 hbytes hbase
  unfold Oper.wp execOp
  simp only [ho, resolve, invoke, builtin, Sem.run_bind, Sem.run_pure, Result.andThen_ok, List.map_toArray, List.map_cons, List.map_nil, hs, hx, hr]
  exact h v' w' h2 h3 h5
end
end Go.Proofs.YtdjdiiibcocmpaaGreatDoor
/- Law 58, VerifierLines: the reference's lines of a report. Conditions: its rows lie in the world; at most 100 findings, losses and differences of each view, paths of at most 500 bytes, numbers that are ints. -/
namespace Go.Proofs.YtdjdiiibcocmpaaGreatDoor
open Go.RowKit Go.Lib
set_option linter.unusedSimpArgs false
set_option linter.unusedVariables false
set_option maxRecDepth 1000000
set_option maxHeartbeats 6400000
theorem find_size : (Tryz.prog.info? 81).map (·.size) = some 3 := by kernel_rfl
/-- The list that is being made, and the report's own block. -/
structure OutB (cs : List Value) (L : List ByteArray) (w : World) (out : Value) (wr : World) : Prop where
  own : wr.ownsRow (w.heap.size + 1) 9 1 out L.length (strsV L)
  box : Box 27 w.heap.size cs wr
  bel : Below w.heap.size w wr
theorem own_snoc {w : World} {b : Nat} {v : Value} {L : List ByteArray} {x : ByteArray} (h : w.ownsRow b 9 1 v (L.length + 1) (strsV L ++ [.string x])) : w.ownsRow b 9 1 v (L ++ [x]).length (strsV (L ++ [x])) := by
  rw [strsV_snoc, List.length_append]; exact h
/-- Behind an append the report's block and what lay below stand as they stood. -/
theorem OutB.grown {cs : List Value} {L : List ByteArray} {x : ByteArray} {w w2 w8 : World} {out v8 : Value} (h : OutB cs L w out w2) {wt : World} (ht : Below w2.heap.size w2 wt)
    (hown : w8.ownsRow (w.heap.size + 1) 9 1 v8 (L.length + 1) (strsV L ++ [.string x])) (hg : wt.grownBy w8 out.ownBlock) : OutB cs (L ++ [x]) w v8 w8 where
  own := own_snoc hown
  box := (hg.block w.heap.size (h.box.step ht).lt (fun e => by have := (h.own.lt _ e.symm).1; omega)).trans (h.box.step ht)
  bel := (h.bel.trans (ht.mono h.bel.size)).grown hg (Nat.le_trans h.bel.size ht.size) (fun j hj => Nat.le_of_succ_le (h.own.lt j hj).1)
theorem OutB.below {cs : List Value} {L : List ByteArray} {w w2 wt : World} {out : Value} (h : OutB cs L w out w2) (ht : Below w2.heap.size w2 wt) : OutB cs L w out wt where
  own := own_below' h.own ht
  box := h.box.step ht
  bel := h.bel.trans (ht.mono h.bel.size)
theorem headOut (s v : Int) (cs : List Value) (w w7 : World) (hbx : Box 27 w.heap.size cs w7) (hb : Below w.heap.size w w7) :
    OutB cs [headLine s v] w (.slice (some ⟨w7.heap.size, 0, none⟩) 1 1) (w7.alloc (.cells #[.string (headLine s v)] 9)) where
  own := World.ownsRow_lit w7 #[.string (headLine s v)] 1 (by have := hbx.lt; omega) (by decide) rfl
  box := hbx.step (below_alloc1 _ _)
  bel := hb.trans ((below_alloc1 _ _).mono hb.size)
theorem finds_snoc (s v : Int) (fs : List FindT) (k : Nat) (h : k < fs.length) : headLine s v :: (fs.map findLine).take (k + 1) = (headLine s v :: (fs.map findLine).take k) ++ [findLine fs[k]] := by
  rw [map_take_snoc findLine fs k h]; rfl
section
variable {P : Program} {ops : Array Oper} {Q : Exit → Act → World → Prop} {md : Region.Mode} {S : World → Prop}
/-- One operation alone may come up. -/
theorem held_step {i : Nat} {oi : Oper} {f : Nat} {done : Array Bool} {a : Act} {w : World} (hi : ops[i]? = some oi) (hr : Region.ready md ops done = [i])
    (h : ∀ K : Act → World → Prop, (∀ a' w', S w' → wpAnyH P md ops Q S f (done.setIfInBounds i true) a' w' → K a' w') → if Region.wanted oi (yielded ops a.tmps) = true then Oper.wp P oi a w K Q else K (a.put oi.dst undef) w) : wpAnyH P md ops Q S (f + 1) done a w := by
  refine ⟨fun h0 => (by rw [hr] at h0; cases h0), fun j hj => ?_⟩
  rw [hr] at hj
  obtain rfl := List.mem_singleton.1 hj
  have h1 := h (fun a' w' => S w' ∧ wpAnyH P md ops Q S f (done.setIfInBounds j true) a' w') (fun a' w' h1 h2 => ⟨h1, h2⟩)
  unfold wpOp
  rw [hi]
  show if Region.wanted oi (yielded ops a.tmps) = true then _ else _
  by_cases hw : Region.wanted oi (yielded ops a.tmps) = true
  · rw [if_pos hw] at h1 ⊢
    exact .inl h1
  · rw [if_neg hw] at h1 ⊢
    exact h1
theorem held_one {i : Nat} {oi : Oper} {f : Nat} {done : Array Bool} {a : Act} {w : World} (hi : ops[i]? = some oi) (hg : oi.guard = none) (hr : Region.ready md ops done = [i])
    (h : ∀ K : Act → World → Prop, (∀ a' w', S w' → wpAnyH P md ops Q S f (done.setIfInBounds i true) a' w' → K a' w') → Oper.wp P oi a w K Q) : wpAnyH P md ops Q S (f + 1) done a w :=
  held_step hi hr fun K hK => by rw [if_pos (by simp [Region.wanted, hg])]; exact h K hK
end
theorem cells3_far {wt w8 : World} {row : Option Nat} {g : Nat} {a b c : Value} (hg : wt.grownBy w8 row) (h : wt.cell? ⟨g, 0, none⟩ = some a ∧ wt.cell? ⟨g, 1, none⟩ = some b ∧ wt.cell? ⟨g, 2, none⟩ = some c) (hne : row ≠ some g) :
    w8.cell? ⟨g, 0, none⟩ = some a ∧ w8.cell? ⟨g, 1, none⟩ = some b ∧ w8.cell? ⟨g, 2, none⟩ = some c :=
  have hl := World.block_lt_of_cell? _ _ h.1
  ⟨(hg.cell_far ⟨g, 0, none⟩ hl (fun e => hne e.symm)).trans h.1, (hg.cell_far ⟨g, 1, none⟩ hl (fun e => hne e.symm)).trans h.2.1, (hg.cell_far ⟨g, 2, none⟩ hl (fun e => hne e.symm)).trans h.2.2⟩
theorem cell_far1 {wt w8 : World} {row : Option Nat} {g j : Nat} {a : Value} (hg : wt.grownBy w8 row) (h : wt.cell? ⟨g, j, none⟩ = some a) (hne : row ≠ some g) : w8.cell? ⟨g, j, none⟩ = some a :=
  (hg.cell_far ⟨g, j, none⟩ (World.block_lt_of_cell? _ _ h) (fun e => hne e.symm)).trans h
/-- A list that was made besides the one being made. -/
structure Beside (o : Value) (L : List ByteArray) (base : Nat) (out : Value) (wr : World) : Prop where
  own : wr.ownsRow base 9 1 o L.length (strsV L)
  apart : ∀ g, o.ownBlock = some g → out.ownBlock ≠ some g
theorem Beside.ne {o : Value} {L : List ByteArray} {base : Nat} {out : Value} {wr : World} (h : Beside o L base out wr) {g : Nat} (hg : o.ownBlock = some g) : out.ownBlock ≠ some g := h.apart g hg
theorem Beside.grown {o : Value} {L : List ByteArray} {base : Nat} {out v8 : Value} {wr wt w8 : World} (h : Beside o L base out wr) (ht : Below wr.heap.size wr wt) (hg : wt.grownBy w8 out.ownBlock) (hb : v8.ownBlock = out.ownBlock ∨ v8.ownBlock = some wt.heap.size) : Beside o L base v8 w8 where
  own := (own_below' h.own ht).kept hg (by
    cases hq : o.ownBlock with
    | none => exact .inl rfl
    | some g => exact .inr (fun e => h.apart g hq e.symm))
  apart := fun g hq => by
    rcases hb with e | e
    · rw [e]; exact h.apart g hq
    · rw [e]; intro e'; injection e' with e'
      have := (h.own.lt g hq).2
      have := ht.size
      omega
theorem Beside.cell {o : Value} {L : List ByteArray} {base : Nat} {out : Value} {wr : World} (h : Beside o L base out wr) {j : Nat} (hj : j < L.length) : ∃ g cap, o = .slice (some ⟨g, 0, none⟩) L.length cap ∧ wr.cell? ⟨g, j, none⟩ = some (.string L[j]) := by
  rcases h.own.2 with ⟨_, h0⟩ | ⟨g, cap, _, rfl, _⟩
  · omega
  · refine ⟨g, cap, rfl, ?_⟩
    rw [h.own.cellAt j (by omega), strsV, List.getElem?_map, List.getElem?_eq_getElem hj]
    rfl
theorem Beside.made {o : Value} {L : List ByteArray} {out : Value} {w w' : World} {base e size n : Nat} {xs : List Value} (h : w'.ownsRow w.heap.size 9 1 o L.length (strsV L)) (ho : w.ownsRow base e size out n xs) : Beside o L w.heap.size out w' where
  own := h
  apart := fun g hg e => by
    have := (h.lt g hg).1
    have := (ho.lt g e).2
    omega
theorem repView {s v : Int} {fs : List FindT} {ds : Nat → List (Int × ByteArray)} {ls : List LossT} {fa : Option Addr} {fc : Nat} {A : Nat → Option Addr} {C : Nat → Nat} {la : Option Addr} {lc g : Nat} {wr : World}
    (h : Box 27 g (repOf s v fs ds ls fa fc A C la lc) wr) {k : Nat} (hk : k < 4) : wr.cell? ⟨g, 3 + k, none⟩ = some (.slice (A k) (ds k).length (C k)) := by
  have key : k = 0 ∨ k = 1 ∨ k = 2 ∨ k = 3 := by omega
  rcases key with rfl | rfl | rfl | rfl
  · exact h.cell 3 _ rfl
  · exact h.cell 4 _ rfl
  · exact h.cell 5 _ rfl
  · exact h.cell 6 _ rfl
theorem r_view' (k : Nat) (hk : k < 4) (w : World) : Calls Tryz.prog 24 #[.int .i64 k] w fun e w' => e = .returned (.string (vwords.getD k ⟨#[]⟩)) ∧ Below w.heap.size w w' :=
  (r_view k hk w).mono fun e w' ⟨h1, h2⟩ => ⟨h1, by rw [h2]; exact Below.refl _ _⟩
theorem r_fmt58 (s v : Int) (fs : List FindT) (ds : Nat → List (Int × ByteArray)) (ls : List LossT) (fa : Option Addr) (fc : Nat) (A : Nat → Option Addr) (C : Nat → Nat) (la : Option Addr) (lc : Nat) (B : Nat) (w : World)
    (hR : RepW w B s v fs ds ls fa fc A C la lc) (hB : B ≤ w.heap.size) :
    Calls Tryz.prog 13 #[.agg (repOf s v fs ds ls fa fc A C la lc).toArray] w fun e w' => ∃ o, e = .returned o ∧ w'.ownsRow w.heap.size 9 1 o (repLines s v fs ds ls).length (strsV (repLines s v fs ds ls)) ∧ Below w.heap.size w w' := by
  obtain ⟨i0, hi, hz0, hz1, hz2⟩ := info_parts info_str
  have HB := Lib.hid hB
  have HC1 := Lib.hid (fun W : World => r_dec s hR.hs W)
  have HC2 := Lib.hid (fun W : World => r_dec v hR.hv W)
  have z1 := itoa_length_le s hR.hs.1 hR.hs.2
  have z2 := itoa_length_le v hR.hv.1 hR.hv.2
  have hnf := hR.nf
  have hlenf : (findCells fs).length = fs.length := by simp [findCells]
  have HROW := Lib.hid (show ∀ k, (h : k < fs.length) → ∃ b off, fa = some ⟨b, off, none⟩ ∧ b < B ∧ ∀ j x, ([.int .i64 fs[k].1, .int .i64 fs[k].2.1, .int .i64 fs[k].2.2] : List Value)[j]? = some x → w.cell? ⟨b, off + k * 3 + j, none⟩ = some x from fun k h => by
    obtain ⟨a, c, ha, hrow⟩ := hR.rf
    injection ha with ha _ _
    obtain ⟨b, off, h1, h2, h3⟩ := hrow k (by omega)
    exact ⟨b, off, ha.trans h1, h2, fun j x hx => h3 j x (by simpa [findCells] using hx)⟩)
  have HR := Lib.hid hR
  have hbx0 : Box 27 w.heap.size (repOf s v fs ds ls fa fc A C la lc) (w.alloc (.cells #[.int .i64 s, .int .i64 v, .slice fa fs.length fc, .slice (A 0) (ds 0).length (C 0), .slice (A 1) (ds 1).length (C 1), .slice (A 2) (ds 2).length (C 2), .slice (A 3) (ds 3).length (C 3), .slice la ls.length lc] 27)) := heap_alloc_last _ _
  have hb0 : Below w.heap.size w (w.alloc (.cells #[.int .i64 s, .int .i64 v, .slice fa fs.length fc, .slice (A 0) (ds 0).length (C 0), .slice (A 1) (ds 1).length (C 1), .slice (A 2) (ds 2).length (C 2), .slice (A 3) (ds 3).length (C 3), .slice la ls.length lc] 27)) := below_alloc1 w _
  have c0 := hbx0.cell 0 _ rfl
  have c1 := hbx0.cell 1 _ rfl
  clear hR hlenf hB
  rw [show (repOf s v fs ds ls fa fc A C la lc).toArray = #[.int .i64 s, .int .i64 v, .slice fa fs.length fc, .slice (A 0) (ds 0).length (C 0), .slice (A 1) (ds 1).length (C 1), .slice (A 2) (ds 2).length (C 2), .slice (A 3) (ds 3).length (C 3), .slice la ls.length lc] from rfl]
  go_enter Tryz.func13, Tryz.ntmps13
  have HMK := Lib.hid (show ∀ W, Below (World.heap (w.alloc (.cells #[.int .i64 s, .int .i64 v, .slice fa fs.length fc, .slice (A 0) (ds 0).length (C 0), .slice (A 1) (ds 1).length (C 1), .slice (A 2) (ds 2).length (C 2), .slice (A 3) (ds 3).length (C 3), .slice la ls.length lc] 27))).size (w.alloc (.cells #[.int .i64 s, .int .i64 v, .slice fa fs.length fc, .slice (A 0) (ds 0).length (C 0), .slice (A 1) (ds 1).length (C 1), .slice (A 2) (ds 2).length (C 2), .slice (A 3) (ds 3).length (C 3), .slice la ls.length lc] 27)) W → W.cell? ⟨w.heap.size, 0, none⟩ = some (.int .i64 s) ∧ W.cell? ⟨w.heap.size, 1, none⟩ = some (.int .i64 v) from fun W hW => ⟨(hbx0.step hW).cell 0 _ rfl, (hbx0.step hW).cell 1 _ rfl⟩)
  go_upto_region 1 with (fail)
  go_cut [3] (fun out wx => OutB (repOf s v fs ds ls fa fc A C la lc) [headLine s v] w out wx)
  case first =>
    generalize w.alloc (.cells #[.int .i64 s, .int .i64 v, .slice fa fs.length fc, .slice (A 0) (ds 0).length (C 0), .slice (A 1) (ds 1).length (C 1), .slice (A 2) (ds 2).length (C 2), .slice (A 3) (ds 3).length (C 3), .slice la ls.length lc] 27) = w1 at *
    have g1 : ¬ (9223372036854775807 < 8 + (itoa s).length) := by omega
    have g2 : ¬ (9223372036854775807 < 8 + (itoa s).length + 7) := by omega
    have g3 : ¬ (9223372036854775807 < 8 + (itoa s).length + 7 + (itoa v).length) := by omega
    have HBX0 := Lib.hid hbx0
    have HB0 := Lib.hid hb0
    clear hbx0 hb0
    refine wp_region_held (S := fun W : World => W.cell? ⟨w.heap.size, 0, none⟩ = some (.int .i64 s) ∧ W.cell? ⟨w.heap.size, 1, none⟩ = some (.int .i64 v)) (by kernel_rfl) ?_
    change wpAnyH _ _ _ _ _ _ _ _ (World.drew w1)
    have HS : (fun W : World => W.cell? ⟨w.heap.size, 0, none⟩ = some (.int .i64 s) ∧ W.cell? ⟨w.heap.size, 1, none⟩ = some (.int .i64 v)) (World.drew w1) := ⟨c0, c1⟩
    clear c0 c1
    refine wpAnyH_take (i := 0) (v := (.pointer (some ⟨w.heap.size, 0, none⟩))) rfl (by kernel_rfl) (by kernel_rfl) (by kernel_rfl) (fun _ _ _ h => h) (Or.inl ⟨by rfl, fun W hW => ?_⟩) HS ?_
    · obtain ⟨hW0, hW1⟩ := hW
      clear HS
      go_simp
    try simp only [Act.put, List.setIfInBounds_toArray, List.set_cons_zero, List.set_cons_succ]
    refine wpAnyH_take (i := 1) (v := .int .i64 s) rfl (by kernel_rfl) (by kernel_rfl) (by kernel_rfl) (fun _ _ _ h => h) (Or.inl ⟨by rfl, fun W hW => ?_⟩) HS ?_
    · obtain ⟨hW0, hW1⟩ := hW
      clear HS
      go_simp
    try simp only [Act.put, List.setIfInBounds_toArray, List.set_cons_zero, List.set_cons_succ]
    refine wpAnyH_take (i := 5) (v := (.pointer (some ⟨w.heap.size, 1, none⟩))) rfl (by kernel_rfl) (by kernel_rfl) (by kernel_rfl) (fun _ _ _ h => h) (Or.inl ⟨by rfl, fun W hW => ?_⟩) HS ?_
    · obtain ⟨hW0, hW1⟩ := hW
      clear HS
      go_simp
    try simp only [Act.put, List.setIfInBounds_toArray, List.set_cons_zero, List.set_cons_succ]
    refine wpAnyH_take (i := 6) (v := .int .i64 v) rfl (by kernel_rfl) (by kernel_rfl) (by kernel_rfl) (fun _ _ _ h => h) (Or.inl ⟨by rfl, fun W hW => ?_⟩) HS ?_
    · obtain ⟨hW0, hW1⟩ := hW
      clear HS
      go_simp
    try simp only [Act.put, List.setIfInBounds_toArray, List.set_cons_zero, List.set_cons_succ]
    refine held_one (i := 2) rfl rfl (by kernel_rfl) (fun K2 hK2 => ?_)
    go_simp
    refine (HC1.out _).mono ?_
    rintro e w6 ⟨rfl, hb6⟩
    have FR6 := Lib.hid (show Below w1.heap.size w1 w6 from by first | exact hb6 | exact (below_drew (Below.refl w1.heap.size w1)).trans hb6)
    clear hb6
    replace HS : (fun W : World => W.cell? ⟨w.heap.size, 0, none⟩ = some (.int .i64 s) ∧ W.cell? ⟨w.heap.size, 1, none⟩ = some (.int .i64 v)) w6 := HMK.out _ FR6.out
    refine hK2 _ _ HS ?_
    clear hK2
    try simp only [Act.put, List.setIfInBounds_toArray, List.set_cons_zero, List.set_cons_succ]
    refine wpAnyH_take (i := 3) (v := (.string (⟨#[115, 101, 115, 115, 105, 111, 110, 32]⟩ ++ ⟨(itoa s).toArray⟩))) rfl (by kernel_rfl) (by kernel_rfl) (by kernel_rfl) (fun _ _ _ h => h) (Or.inl ⟨by rfl, fun W hW => ?_⟩) HS ?_
    · obtain ⟨hW0, hW1⟩ := hW
      clear HS
      go_simp
    try simp only [Act.put, List.setIfInBounds_toArray, List.set_cons_zero, List.set_cons_succ]
    refine wpAnyH_take (i := 4) (v := (.string ((⟨#[115, 101, 115, 115, 105, 111, 110, 32]⟩ ++ ⟨(itoa s).toArray⟩) ++ ⟨#[32, 118, 105, 101, 119, 115, 32]⟩))) rfl (by kernel_rfl) (by kernel_rfl) (by kernel_rfl) (fun _ _ _ h => h) (Or.inl ⟨by rfl, fun W hW => ?_⟩) HS ?_
    · obtain ⟨hW0, hW1⟩ := hW
      clear HS
      go_simp
    try simp only [Act.put, List.setIfInBounds_toArray, List.set_cons_zero, List.set_cons_succ]
    refine held_one (i := 7) rfl rfl (by kernel_rfl) (fun K7 hK7 => ?_)
    go_simp
    refine (HC2.out _).mono ?_
    rintro e w7 ⟨rfl, hb7⟩
    have FR7 := Lib.hid (show Below w1.heap.size w1 w7 from FR6.out.trans (hb7.mono FR6.out.size))
    clear hb7
    replace HS : (fun W : World => W.cell? ⟨w.heap.size, 0, none⟩ = some (.int .i64 s) ∧ W.cell? ⟨w.heap.size, 1, none⟩ = some (.int .i64 v)) w7 := HMK.out _ FR7.out
    refine hK7 _ _ HS ?_
    clear hK7
    try simp only [Act.put, List.setIfInBounds_toArray, List.set_cons_zero, List.set_cons_succ]
    refine wpAnyH_take (i := 8) (v := (.string (((⟨#[115, 101, 115, 115, 105, 111, 110, 32]⟩ ++ ⟨(itoa s).toArray⟩) ++ ⟨#[32, 118, 105, 101, 119, 115, 32]⟩) ++ ⟨(itoa v).toArray⟩))) rfl (by kernel_rfl) (by kernel_rfl) (by kernel_rfl) (fun _ _ _ h => h) (Or.inl ⟨by rfl, fun W hW => ?_⟩) HS ?_
    · obtain ⟨hW0, hW1⟩ := hW
      clear HS
      go_simp
    try simp only [Act.put, List.setIfInBounds_toArray, List.set_cons_zero, List.set_cons_succ]
    refine held_one (i := 9) rfl rfl (by kernel_rfl) (fun K9 hK9 => ?_)
    go_simp
    refine hK9 _ _ (HMK.out _ (FR7.out.trans ((below_alloc1 _ _).mono FR7.out.size))) ?_
    clear hK9
    replace HS : (fun W : World => W.cell? ⟨w.heap.size, 0, none⟩ = some (.int .i64 s) ∧ W.cell? ⟨w.heap.size, 1, none⟩ = some (.int .i64 v)) (w7.alloc (.cells #[.string (((⟨#[115, 101, 115, 115, 105, 111, 110, 32]⟩ ++ ⟨(itoa s).toArray⟩) ++ ⟨#[32, 118, 105, 101, 119, 115, 32]⟩) ++ ⟨(itoa v).toArray⟩)] 9)) := HMK.out _ (FR7.out.trans ((below_alloc1 _ _).mono FR7.out.size))
    try simp only [Act.put, List.setIfInBounds_toArray, List.set_cons_zero, List.set_cons_succ]
    refine held_one (i := 10) rfl rfl (by kernel_rfl) (fun K10 hK10 => ?_)
    go_simp
    refine hK10 _ _ HS ?_
    clear hK10
    try simp only [Act.put, List.setIfInBounds_toArray, List.set_cons_zero, List.set_cons_succ]
    refine wpAnyH_done (by kernel_rfl) ?_ _
    have HO7 := Lib.hid (headOut s v _ w w7 (HBX0.out.step FR7.out) (HB0.out.trans (FR7.out.mono HB0.out.size)))
    clear FR6 FR7 HMK HBX0 HB0 HC1 HC2 g1 g2 g3 z1 z2 HS
    go_wp2
    go_meet
    case rel => exact HO7.out
  case rest =>
    clear hbx0 hb0 c0 c1 HMK HC1 HC2 z1 z2
    go_wp2_with fail
    go_loopw [3, 4] (fun out i wr => ∃ k : Nat, i = .int .i64 k ∧ k ≤ fs.length ∧ OutB (repOf s v fs ds ls fa fc A C la lc) (headLine s v :: (fs.map findLine).take k) w out wr) (fun _ i _ => fs.length - (RowKit.intOf i).toNat)
    case atStart => exact ⟨0, rfl, Nat.zero_le _, hcut⟩
    case round =>
      obtain ⟨k, rfl, hk, hO⟩ := hrel
      have c2 := hO.box.cell 2 _ rfl
      by_cases hlt : k < fs.length
      · have hi' : (k : Int) < fs.length := by omega
        obtain ⟨b, off, rfl, hbB, hcw⟩ := HROW.out k hlt
        have hcell := fun j x hx => (hO.bel.cell (Nat.lt_of_lt_of_le hbB HB.out)).trans (hcw j x hx)
        obtain ⟨j1, j2, j3⟩ := HR.out.jf fs[k] (List.getElem_mem hlt)
        have HL := Lib.hid (show headLine s v :: (fs.map findLine).take (k + 1) = (headLine s v :: (fs.map findLine).take k) ++ [((((⟨#[102, 105, 110, 100, 105, 110, 103, 32]⟩ ++ ⟨(itoa fs[k].1).toArray⟩) ++ ⟨#[32]⟩) ++ ⟨(itoa fs[k].2.1).toArray⟩) ++ ⟨#[32]⟩) ++ ⟨(itoa fs[k].2.2).toArray⟩] from finds_snoc s v fs k hlt)
        have HLEN := Lib.hid (show (headLine s v :: (fs.map findLine).take k).length ≤ 601 by simp; omega)
        generalize headLine s v :: (fs.map findLine).take k = L at *
        clear hcw
        have HC1 := Lib.hid (fun W : World => r_dec fs[k].1 j1 W)
        have HC2 := Lib.hid (fun W : World => r_dec fs[k].2.1 j2 W)
        have HC3 := Lib.hid (fun W : World => r_dec fs[k].2.2 j3 W)
        have z1 := itoa_length_le fs[k].1 j1.1 j1.2
        have z2 := itoa_length_le fs[k].2.1 j2.1 j2.2
        have z3 := itoa_length_le fs[k].2.2 j3.1 j3.2
        generalize fs[k].1 = p at *
        generalize fs[k].2.1 = q at *
        generalize fs[k].2.2 = r at *
        clear j1 j2 j3
        obtain ⟨oa, oc, rfl⟩ := own_slice hO.own
        have HCELL := Lib.hid hcell
        have HOUT0 := Lib.hid hO
        clear hcell hO
        go_upto_region 6 with (first
          | (refine wpList_load_at rfl _ _ rfl b (off + k * 3) [.int .i64 p, .int .i64 q, .int .i64 r] _ rfl HCELL.out Tryz.underlying81 rfl find_size ?_)
          | go_in)
        have hbox2 : Box 81 wr.heap.size [.int .i64 p, .int .i64 q, .int .i64 r] (wr.alloc (.cells #[.int .i64 p, .int .i64 q, .int .i64 r] 81)) := heap_alloc_last _ _
        have hbel2 := below_alloc1 wr (.cells #[.int .i64 p, .int .i64 q, .int .i64 r] 81)
        generalize wr.alloc (.cells #[.int .i64 p, .int .i64 q, .int .i64 r] 81) = w2 at hbox2 hbel2 ⊢
        have HOUT := Lib.hid (HOUT0.out.below hbel2)
        have HG := Lib.hid (show (Value.slice oa L.length oc).ownBlock ≠ some wr.heap.size from fun e => by have := (HOUT0.out.own.lt _ e).2; omega)
        have HMK := Lib.hid (show ∀ W, Below w2.heap.size w2 W → W.cell? ⟨wr.heap.size, 0, none⟩ = some (.int .i64 p) ∧ W.cell? ⟨wr.heap.size, 1, none⟩ = some (.int .i64 q) ∧ W.cell? ⟨wr.heap.size, 2, none⟩ = some (.int .i64 r) from fun W hW => ⟨(hbox2.step hW).cell 0 _ rfl, (hbox2.step hW).cell 1 _ rfl, (hbox2.step hW).cell 2 _ rfl⟩)
        clear hbox2 hbel2 HCELL HOUT0 c2
        generalize wr.heap.size = g at *
        have g1 : ¬ (9223372036854775807 < 8 + (itoa p).length) := by omega
        have g2 : ¬ (9223372036854775807 < 8 + (itoa p).length + 1) := by omega
        have g3 : ¬ (9223372036854775807 < 8 + (itoa p).length + 1 + (itoa q).length) := by omega
        have g4 : ¬ (9223372036854775807 < 8 + (itoa p).length + 1 + (itoa q).length + 1) := by omega
        have g5 : ¬ (9223372036854775807 < 8 + (itoa p).length + 1 + (itoa q).length + 1 + (itoa r).length) := by omega
        refine wp_region_held (S := fun W : World => W.cell? ⟨g, 0, none⟩ = some (.int .i64 p) ∧ W.cell? ⟨g, 1, none⟩ = some (.int .i64 q) ∧ W.cell? ⟨g, 2, none⟩ = some (.int .i64 r)) (by kernel_rfl) ?_
        change wpAnyH _ _ _ _ _ _ _ _ (World.drew w2)
        have HS : (fun W : World => W.cell? ⟨g, 0, none⟩ = some (.int .i64 p) ∧ W.cell? ⟨g, 1, none⟩ = some (.int .i64 q) ∧ W.cell? ⟨g, 2, none⟩ = some (.int .i64 r)) (World.drew w2) := HMK.out w2 (Below.refl _ _)
        refine wpAnyH_take (i := 0) (v := (.slice oa L.length oc)) rfl (by kernel_rfl) (by kernel_rfl) (by kernel_rfl) (fun _ _ _ h => h) (Or.inl ⟨by rfl, fun W hW => ?_⟩) HS ?_
        · obtain ⟨hW0, hW1, hW2⟩ := hW
          clear HS
          go_simp
        try simp only [Act.put, List.setIfInBounds_toArray, List.set_cons_zero, List.set_cons_succ]
        refine wpAnyH_take (i := 1) (v := (.pointer (some ⟨g, 0, none⟩))) rfl (by kernel_rfl) (by kernel_rfl) (by kernel_rfl) (fun _ _ _ h => h) (Or.inl ⟨by rfl, fun W hW => ?_⟩) HS ?_
        · obtain ⟨hW0, hW1, hW2⟩ := hW
          clear HS
          go_simp
        try simp only [Act.put, List.setIfInBounds_toArray, List.set_cons_zero, List.set_cons_succ]
        refine wpAnyH_take (i := 2) (v := .int .i64 p) rfl (by kernel_rfl) (by kernel_rfl) (by kernel_rfl) (fun _ _ _ h => h) (Or.inl ⟨by rfl, fun W hW => ?_⟩) HS ?_
        · obtain ⟨hW0, hW1, hW2⟩ := hW
          clear HS
          go_simp
        try simp only [Act.put, List.setIfInBounds_toArray, List.set_cons_zero, List.set_cons_succ]
        refine wpAnyH_take (i := 6) (v := (.pointer (some ⟨g, 1, none⟩))) rfl (by kernel_rfl) (by kernel_rfl) (by kernel_rfl) (fun _ _ _ h => h) (Or.inl ⟨by rfl, fun W hW => ?_⟩) HS ?_
        · obtain ⟨hW0, hW1, hW2⟩ := hW
          clear HS
          go_simp
        try simp only [Act.put, List.setIfInBounds_toArray, List.set_cons_zero, List.set_cons_succ]
        refine wpAnyH_take (i := 7) (v := .int .i64 q) rfl (by kernel_rfl) (by kernel_rfl) (by kernel_rfl) (fun _ _ _ h => h) (Or.inl ⟨by rfl, fun W hW => ?_⟩) HS ?_
        · obtain ⟨hW0, hW1, hW2⟩ := hW
          clear HS
          go_simp
        try simp only [Act.put, List.setIfInBounds_toArray, List.set_cons_zero, List.set_cons_succ]
        refine wpAnyH_take (i := 11) (v := (.pointer (some ⟨g, 2, none⟩))) rfl (by kernel_rfl) (by kernel_rfl) (by kernel_rfl) (fun _ _ _ h => h) (Or.inl ⟨by rfl, fun W hW => ?_⟩) HS ?_
        · obtain ⟨hW0, hW1, hW2⟩ := hW
          clear HS
          go_simp
        try simp only [Act.put, List.setIfInBounds_toArray, List.set_cons_zero, List.set_cons_succ]
        refine wpAnyH_take (i := 12) (v := .int .i64 r) rfl (by kernel_rfl) (by kernel_rfl) (by kernel_rfl) (fun _ _ _ h => h) (Or.inl ⟨by rfl, fun W hW => ?_⟩) HS ?_
        · obtain ⟨hW0, hW1, hW2⟩ := hW
          clear HS
          go_simp
        try simp only [Act.put, List.setIfInBounds_toArray, List.set_cons_zero, List.set_cons_succ]
        refine held_one (i := 3) rfl rfl (by kernel_rfl) (fun K3 hK3 => ?_)
        go_simp
        refine (HC1.out _).mono ?_
        rintro e w5 ⟨rfl, hb5⟩
        have FR5 := Lib.hid (show Below w2.heap.size w2 w5 from by first | exact hb5 | exact (below_drew (Below.refl w2.heap.size w2)).trans hb5)
        clear hb5
        replace HS : (fun W : World => W.cell? ⟨g, 0, none⟩ = some (.int .i64 p) ∧ W.cell? ⟨g, 1, none⟩ = some (.int .i64 q) ∧ W.cell? ⟨g, 2, none⟩ = some (.int .i64 r)) w5 := HMK.out _ FR5.out
        refine hK3 _ _ HS ?_
        clear hK3
        try simp only [Act.put, List.setIfInBounds_toArray, List.set_cons_zero, List.set_cons_succ]
        refine wpAnyH_take (i := 4) (v := (.string (⟨#[102, 105, 110, 100, 105, 110, 103, 32]⟩ ++ ⟨(itoa p).toArray⟩))) rfl (by kernel_rfl) (by kernel_rfl) (by kernel_rfl) (fun _ _ _ h => h) (Or.inl ⟨by rfl, fun W hW => ?_⟩) HS ?_
        · obtain ⟨hW0, hW1, hW2⟩ := hW
          clear HS
          go_simp
        try simp only [Act.put, List.setIfInBounds_toArray, List.set_cons_zero, List.set_cons_succ]
        refine wpAnyH_take (i := 5) (v := (.string ((⟨#[102, 105, 110, 100, 105, 110, 103, 32]⟩ ++ ⟨(itoa p).toArray⟩) ++ ⟨#[32]⟩))) rfl (by kernel_rfl) (by kernel_rfl) (by kernel_rfl) (fun _ _ _ h => h) (Or.inl ⟨by rfl, fun W hW => ?_⟩) HS ?_
        · obtain ⟨hW0, hW1, hW2⟩ := hW
          clear HS
          go_simp
        try simp only [Act.put, List.setIfInBounds_toArray, List.set_cons_zero, List.set_cons_succ]
        refine held_one (i := 8) rfl rfl (by kernel_rfl) (fun K8 hK8 => ?_)
        go_simp
        refine (HC2.out _).mono ?_
        rintro e w6 ⟨rfl, hb6⟩
        have FR6 := Lib.hid (show Below w2.heap.size w2 w6 from FR5.out.trans (hb6.mono FR5.out.size))
        clear hb6
        replace HS : (fun W : World => W.cell? ⟨g, 0, none⟩ = some (.int .i64 p) ∧ W.cell? ⟨g, 1, none⟩ = some (.int .i64 q) ∧ W.cell? ⟨g, 2, none⟩ = some (.int .i64 r)) w6 := HMK.out _ FR6.out
        refine hK8 _ _ HS ?_
        clear hK8
        try simp only [Act.put, List.setIfInBounds_toArray, List.set_cons_zero, List.set_cons_succ]
        refine wpAnyH_take (i := 9) (v := (.string (((⟨#[102, 105, 110, 100, 105, 110, 103, 32]⟩ ++ ⟨(itoa p).toArray⟩) ++ ⟨#[32]⟩) ++ ⟨(itoa q).toArray⟩))) rfl (by kernel_rfl) (by kernel_rfl) (by kernel_rfl) (fun _ _ _ h => h) (Or.inl ⟨by rfl, fun W hW => ?_⟩) HS ?_
        · obtain ⟨hW0, hW1, hW2⟩ := hW
          clear HS
          go_simp
        try simp only [Act.put, List.setIfInBounds_toArray, List.set_cons_zero, List.set_cons_succ]
        refine wpAnyH_take (i := 10) (v := (.string ((((⟨#[102, 105, 110, 100, 105, 110, 103, 32]⟩ ++ ⟨(itoa p).toArray⟩) ++ ⟨#[32]⟩) ++ ⟨(itoa q).toArray⟩) ++ ⟨#[32]⟩))) rfl (by kernel_rfl) (by kernel_rfl) (by kernel_rfl) (fun _ _ _ h => h) (Or.inl ⟨by rfl, fun W hW => ?_⟩) HS ?_
        · obtain ⟨hW0, hW1, hW2⟩ := hW
          clear HS
          go_simp
        try simp only [Act.put, List.setIfInBounds_toArray, List.set_cons_zero, List.set_cons_succ]
        refine held_one (i := 13) rfl rfl (by kernel_rfl) (fun K13 hK13 => ?_)
        go_simp
        refine (HC3.out _).mono ?_
        rintro e w7 ⟨rfl, hb7⟩
        have FR7 := Lib.hid (show Below w2.heap.size w2 w7 from FR6.out.trans (hb7.mono FR6.out.size))
        clear hb7
        replace HS : (fun W : World => W.cell? ⟨g, 0, none⟩ = some (.int .i64 p) ∧ W.cell? ⟨g, 1, none⟩ = some (.int .i64 q) ∧ W.cell? ⟨g, 2, none⟩ = some (.int .i64 r)) w7 := HMK.out _ FR7.out
        refine hK13 _ _ HS ?_
        clear hK13
        try simp only [Act.put, List.setIfInBounds_toArray, List.set_cons_zero, List.set_cons_succ]
        refine wpAnyH_take (i := 14) (v := (.string (((((⟨#[102, 105, 110, 100, 105, 110, 103, 32]⟩ ++ ⟨(itoa p).toArray⟩) ++ ⟨#[32]⟩) ++ ⟨(itoa q).toArray⟩) ++ ⟨#[32]⟩) ++ ⟨(itoa r).toArray⟩))) rfl (by kernel_rfl) (by kernel_rfl) (by kernel_rfl) (fun _ _ _ h => h) (Or.inl ⟨by rfl, fun W hW => ?_⟩) HS ?_
        · obtain ⟨hW0, hW1, hW2⟩ := hW
          clear HS
          go_simp
        try simp only [Act.put, List.setIfInBounds_toArray, List.set_cons_zero, List.set_cons_succ]
        refine held_one (i := 15) rfl rfl (by kernel_rfl) (fun K15 hK15 => ?_)
        go_simp
        refine hK15 _ _ (HMK.out _ (FR7.out.trans ((below_alloc1 _ _).mono FR7.out.size))) ?_
        clear hK15
        replace HS : (fun W : World => W.cell? ⟨g, 0, none⟩ = some (.int .i64 p) ∧ W.cell? ⟨g, 1, none⟩ = some (.int .i64 q) ∧ W.cell? ⟨g, 2, none⟩ = some (.int .i64 r)) (w7.alloc (.cells #[.string (((((⟨#[102, 105, 110, 100, 105, 110, 103, 32]⟩ ++ ⟨(itoa p).toArray⟩) ++ ⟨#[32]⟩) ++ ⟨(itoa q).toArray⟩) ++ ⟨#[32]⟩) ++ ⟨(itoa r).toArray⟩)] 9)) := HMK.out _ (FR7.out.trans ((below_alloc1 _ _).mono FR7.out.size))
        try simp only [Act.put, List.setIfInBounds_toArray, List.set_cons_zero, List.set_cons_succ]
        refine held_step (i := 16) rfl (by kernel_rfl) (fun K16 hK16 => ?_)
        refine step_append_at rfl _ _ 39 rfl (w.heap.size + 1) 9 i0 (.string ⟨#[]⟩) 1 16 Tryz.underlying39 hi hz0 hz1 hz2 rfl (by decide) (.slice oa L.length oc) L.length (strsV L) rfl (own_below' HOUT.out.own (FR7.out.trans ((below_alloc1 _ _).mono FR7.out.size))) ⟨w7.heap.size, 0, none⟩ 1 1 [.string (((((⟨#[102, 105, 110, 100, 105, 110, 103, 32]⟩ ++ ⟨(itoa p).toArray⟩) ++ ⟨#[32]⟩) ++ ⟨(itoa q).toArray⟩) ++ ⟨#[32]⟩) ++ ⟨(itoa r).toArray⟩)] rfl rfl (World.news_of_block (fr := (0, 0)) (heap_alloc_last _ _)) (by intro u hu; simp only [List.mem_cons, List.not_mem_nil, or_false] at hu; subst hu; rfl) (by unfold maxLen; have := HLEN.out; omega) (by have := HLEN.out; omega) (by have := HOUT.out.box.lt; have := (FR7.out.trans ((below_alloc1 w7 (.cells #[.string (((((⟨#[102, 105, 110, 100, 105, 110, 103, 32]⟩ ++ ⟨(itoa p).toArray⟩) ++ ⟨#[32]⟩) ++ ⟨(itoa q).toArray⟩) ++ ⟨#[32]⟩) ++ ⟨(itoa r).toArray⟩)] 9)).mono FR7.out.size)).size; omega) ?_
        intro v8 w8 hown8 hgrow8 hblk8
        have HO8 := Lib.hid (HOUT.out.grown (FR7.out.trans ((below_alloc1 w7 _).mono FR7.out.size)) hown8 hgrow8)
        replace HS : (fun W : World => W.cell? ⟨g, 0, none⟩ = some (.int .i64 p) ∧ W.cell? ⟨g, 1, none⟩ = some (.int .i64 q) ∧ W.cell? ⟨g, 2, none⟩ = some (.int .i64 r)) w8 := cells3_far hgrow8 (HMK.out _ (FR7.out.trans ((below_alloc1 w7 _).mono FR7.out.size))) HG.out
        clear hown8 hgrow8 hblk8
        refine hK16 _ _ HS ?_
        clear hK16
        try simp only [Act.put, List.setIfInBounds_toArray, List.set_cons_zero, List.set_cons_succ]
        refine held_one (i := 17) rfl rfl (by kernel_rfl) (fun K17 hK17 => ?_)
        go_simp
        refine hK17 _ _ HS ?_
        clear hK17
        try simp only [Act.put, List.setIfInBounds_toArray, List.set_cons_zero, List.set_cons_succ]
        refine wpAnyH_done (by kernel_rfl) ?_ _
        go_wp2
        go_roundw
        case rel => exact ⟨k + 1, by go_num, by omega, by rw [HL.out]; exact HO8.out⟩
        case measure => simp [RowKit.intOf]; omega
      · have hk' : k = fs.length := by omega
        subst hk'
        rw [List.take_of_length_le (by rw [List.length_map]; exact Nat.le_refl _)] at hO
        have hge : (fs.length : Int) ≤ fs.length := Int.le_refl _
        clear HROW
        go_wp2_with fail
        go_loopw [3, 6] (fun out i wr => ∃ k : Nat, i = .int .i64 k ∧ k ≤ 4 ∧ OutB (repOf s v fs ds ls fa fc A C la lc) ((headLine s v :: fs.map findLine) ++ viewsUpto ds k) w out wr) (fun _ i _ => 4 - (RowKit.intOf i).toNat)
        case atStart => exact ⟨0, rfl, by omega, by rw [viewsUpto, List.append_nil]; exact hO⟩
        case round =>
          clear hO c2
          obtain ⟨k, rfl, hk, hO⟩ := hrel
          by_cases hlt : k < 4
          · have hi' : (k : Int) < 4 := by omega
            have cv := repView hO.box hlt
            have HR1 := Lib.hid (HR.out.below hO.bel HB.out)
            have HB1 := Lib.hid (Nat.le_trans HB.out hO.bel.size)
            have HO := Lib.hid hO
            clear hO
            go_wp2_with (first
              | (go_at_call 23; refine (r_fmt50 (ds k) _ B _ (HR1.out.rd k hlt) HB1.out (HR1.out.nd k hlt) (HR1.out.jd k hlt)).mono ?_; rintro e w5 ⟨o, rfl, ho5, hb5⟩)
              | fail)
            have HO5 := Lib.hid (HO.out.below hb5)
            have ho5' : w5.ownsRow wr.heap.size 9 1 o ((ds k).map diffLine).length (strsV ((ds k).map diffLine)) := by rw [List.length_map]; exact ho5
            have HA5 := Lib.hid (Beside.made ho5' HO.out.own)
            obtain ⟨ao, co, rfl⟩ := own_slice ho5
            clear ho5 ho5' hb5 cv
            go_loopw [3, 8] (fun out i wq => ∃ j : Nat, i = .int .i64 j ∧ j ≤ (ds k).length ∧ OutB (repOf s v fs ds ls fa fc A C la lc) (((headLine s v :: fs.map findLine) ++ viewsUpto ds k) ++ (((ds k).map diffLine).map (viewLine k)).take j) w out wq ∧ ∃ nb, Beside (.slice ao (ds k).length co) ((ds k).map diffLine) nb out wq) (fun _ i _ => (ds k).length - (RowKit.intOf i).toNat)
            case atStart => exact ⟨0, rfl, Nat.zero_le _, by rw [List.take_zero, List.append_nil]; exact HO5.out, _, HA5.out⟩
            case round =>
              clear HO5 HA5 HR1 HB1 HO
              obtain ⟨j, rfl, hj, hO, nb, hA⟩ := hrel
              by_cases hjl : j < (ds k).length
              · have hij : (j : Int) < (ds k).length := by omega
                have hdk := HR.out.nd k hlt
                obtain ⟨g, cap, ho, hc⟩ := hA.cell (j := j) (by rw [List.length_map]; exact hjl)
                injection ho with ho1 ho2 ho3
                subst ho1
                subst ho3
                clear ho2
                have hxz : (((ds k).map diffLine)[j]'(by rw [List.length_map]; exact hjl)).size ≤ 520 := by rw [List.getElem_map]; exact diffLine_size _ (HR.out.jd k hlt _ (List.getElem_mem hjl))
                have HL := Lib.hid (show ((headLine s v :: fs.map findLine) ++ viewsUpto ds k) ++ (((ds k).map diffLine).map (viewLine k)).take (j + 1) = (((headLine s v :: fs.map findLine) ++ viewsUpto ds k) ++ (((ds k).map diffLine).map (viewLine k)).take j) ++ [(vwords.getD k ⟨#[]⟩ ++ ⟨#[32]⟩) ++ (((ds k).map diffLine)[j]'(by rw [List.length_map]; exact hjl))] from by
                  rw [map_take_snoc (viewLine k) _ j (by rw [List.length_map]; exact hjl), ← List.append_assoc]; rfl)
                have hvz := vword_size k
                have HV := Lib.hid (fun W : World => r_view' k hlt W)
                have HLEN := Lib.hid (show (((headLine s v :: fs.map findLine) ++ viewsUpto ds k) ++ (((ds k).map diffLine).map (viewLine k)).take j).length ≤ 601 by
                  have := viewsUpto_length ds HR.out.nd k (by omega)
                  simp only [List.length_append, List.length_cons, List.length_map, List.length_take]
                  omega)
                generalize ((headLine s v :: fs.map findLine) ++ viewsUpto ds k) ++ (((ds k).map diffLine).map (viewLine k)).take j = L at *
                generalize ((ds k).map diffLine)[j]'(by rw [List.length_map]; exact hjl) = x at *
                generalize vwords.getD k ⟨#[]⟩ = vw at *
                obtain ⟨oa, oc, rfl⟩ := own_slice hO.own
                have HOUT := Lib.hid hO
                have HAP := Lib.hid hA
                have HMK := Lib.hid (show ∀ W, Below wr.heap.size wr W → W.cell? ⟨g, j, none⟩ = some (.string x) from fun W hW => (hW.cell (World.block_lt_of_cell? _ _ hc)).trans hc)
                have g1 : ¬ (9223372036854775807 < vw.size + 1) := by omega
                have g2 : ¬ (9223372036854775807 < vw.size + 1 + x.size) := by omega
                clear hO hA hc
                go_upto_region 14 with (fail)
                refine wp_region_held (S := fun W : World => W.cell? ⟨g, j, none⟩ = some (.string x)) (by kernel_rfl) ?_
                change wpAnyH _ _ _ _ _ _ _ _ (World.drew wr)
                have HS : (fun W : World => W.cell? ⟨g, j, none⟩ = some (.string x)) (World.drew wr) := HMK.out wr (Below.refl _ _)
                refine wpAnyH_take (i := 0) (v := (.slice oa L.length oc)) rfl (by kernel_rfl) (by kernel_rfl) (by kernel_rfl) (fun _ _ _ h => h) (Or.inl ⟨by rfl, fun W hW => ?_⟩) HS ?_
                · have hW0 := hW
                  clear HS
                  go_simp
                try simp only [Act.put, List.setIfInBounds_toArray, List.set_cons_zero, List.set_cons_succ]
                refine wpAnyH_take (i := 1) (v := (.int .i64 k)) rfl (by kernel_rfl) (by kernel_rfl) (by kernel_rfl) (fun _ _ _ h => h) (Or.inl ⟨by rfl, fun W hW => ?_⟩) HS ?_
                · have hW0 := hW
                  clear HS
                  go_simp
                try simp only [Act.put, List.setIfInBounds_toArray, List.set_cons_zero, List.set_cons_succ]
                refine wpAnyH_take (i := 4) (v := (.slice (some ⟨g, 0, none⟩) (ds k).length co)) rfl (by kernel_rfl) (by kernel_rfl) (by kernel_rfl) (fun _ _ _ h => h) (Or.inl ⟨by rfl, fun W hW => ?_⟩) HS ?_
                · have hW0 := hW
                  clear HS
                  go_simp
                try simp only [Act.put, List.setIfInBounds_toArray, List.set_cons_zero, List.set_cons_succ]
                refine wpAnyH_take (i := 5) (v := (.int .i64 j)) rfl (by kernel_rfl) (by kernel_rfl) (by kernel_rfl) (fun _ _ _ h => h) (Or.inl ⟨by rfl, fun W hW => ?_⟩) HS ?_
                · have hW0 := hW
                  clear HS
                  go_simp
                try simp only [Act.put, List.setIfInBounds_toArray, List.set_cons_zero, List.set_cons_succ]
                refine wpAnyH_take (i := 6) (v := (.pointer (some ⟨g, j, none⟩))) rfl (by kernel_rfl) (by kernel_rfl) (by kernel_rfl) (fun _ _ _ h => h) (Or.inl ⟨by rfl, fun W hW => ?_⟩) HS ?_
                · have hW0 := hW
                  clear HS
                  go_simp
                try simp only [Act.put, List.setIfInBounds_toArray, List.set_cons_zero, List.set_cons_succ]
                refine wpAnyH_take (i := 7) (v := (.string x)) rfl (by kernel_rfl) (by kernel_rfl) (by kernel_rfl) (fun _ _ _ h => h) (Or.inl ⟨by rfl, fun W hW => ?_⟩) HS ?_
                · have hW0 := hW
                  clear HS
                  go_simp
                try simp only [Act.put, List.setIfInBounds_toArray, List.set_cons_zero, List.set_cons_succ]
                refine held_one (i := 2) rfl rfl (by kernel_rfl) (fun K2 hK2 => ?_)
                go_simp
                refine (HV.out _).mono ?_
                rintro e w6 ⟨rfl, hb6⟩
                have FR6 := Lib.hid (show Below wr.heap.size wr w6 from by first | exact hb6 | exact (below_drew (Below.refl wr.heap.size wr)).trans hb6)
                clear hb6
                replace HS : (fun W : World => W.cell? ⟨g, j, none⟩ = some (.string x)) w6 := HMK.out _ FR6.out
                refine hK2 _ _ HS ?_
                clear hK2
                try simp only [Act.put, List.setIfInBounds_toArray, List.set_cons_zero, List.set_cons_succ]
                refine wpAnyH_take (i := 3) (v := (.string (vw ++ ⟨#[32]⟩))) rfl (by kernel_rfl) (by kernel_rfl) (by kernel_rfl) (fun _ _ _ h => h) (Or.inl ⟨by rfl, fun W hW => ?_⟩) HS ?_
                · have hW0 := hW
                  clear HS
                  go_simp
                try simp only [Act.put, List.setIfInBounds_toArray, List.set_cons_zero, List.set_cons_succ]
                refine wpAnyH_take (i := 8) (v := (.string ((vw ++ ⟨#[32]⟩) ++ x))) rfl (by kernel_rfl) (by kernel_rfl) (by kernel_rfl) (fun _ _ _ h => h) (Or.inl ⟨by rfl, fun W hW => ?_⟩) HS ?_
                · have hW0 := hW
                  clear HS
                  go_simp
                try simp only [Act.put, List.setIfInBounds_toArray, List.set_cons_zero, List.set_cons_succ]
                refine held_one (i := 9) rfl rfl (by kernel_rfl) (fun K9 hK9 => ?_)
                go_simp
                refine hK9 _ _ (HMK.out _ (FR6.out.trans ((below_alloc1 _ _).mono FR6.out.size))) ?_
                clear hK9
                replace HS : (fun W : World => W.cell? ⟨g, j, none⟩ = some (.string x)) (w6.alloc (.cells #[.string ((vw ++ ⟨#[32]⟩) ++ x)] 9)) := HMK.out _ (FR6.out.trans ((below_alloc1 _ _).mono FR6.out.size))
                try simp only [Act.put, List.setIfInBounds_toArray, List.set_cons_zero, List.set_cons_succ]
                refine held_step (i := 10) rfl (by kernel_rfl) (fun K10 hK10 => ?_)
                refine step_append_at rfl _ _ 39 rfl (w.heap.size + 1) 9 i0 (.string ⟨#[]⟩) 1 16 Tryz.underlying39 hi hz0 hz1 hz2 rfl (by decide) (.slice oa L.length oc) L.length (strsV L) rfl (own_below' HOUT.out.own (FR6.out.trans ((below_alloc1 _ _).mono FR6.out.size))) ⟨w6.heap.size, 0, none⟩ 1 1 [.string ((vw ++ ⟨#[32]⟩) ++ x)] rfl rfl (World.news_of_block (fr := (0, 0)) (heap_alloc_last _ _)) (by intro u hu; simp only [List.mem_cons, List.not_mem_nil, or_false] at hu; subst hu; rfl) (by unfold maxLen; have := HLEN.out; omega) (by have := HLEN.out; omega) (by have := HOUT.out.box.lt; have := (FR6.out.trans ((below_alloc1 w6 (.cells #[.string ((vw ++ ⟨#[32]⟩) ++ x)] 9)).mono FR6.out.size)).size; omega) ?_
                intro v8 w8 hown8 hgrow8 hblk8
                have HO8 := Lib.hid (HOUT.out.grown (FR6.out.trans ((below_alloc1 w6 _).mono FR6.out.size)) hown8 hgrow8)
                have HA8 := Lib.hid (HAP.out.grown (FR6.out.trans ((below_alloc1 w6 _).mono FR6.out.size)) hgrow8 hblk8)
                replace HS : (fun W : World => W.cell? ⟨g, j, none⟩ = some (.string x)) w8 := cell_far1 hgrow8 (HMK.out _ (FR6.out.trans ((below_alloc1 w6 _).mono FR6.out.size))) (HAP.out.ne rfl)
                clear hown8 hgrow8 hblk8
                refine hK10 _ _ HS ?_
                clear hK10
                try simp only [Act.put, List.setIfInBounds_toArray, List.set_cons_zero, List.set_cons_succ]
                refine held_one (i := 11) rfl rfl (by kernel_rfl) (fun K11 hK11 => ?_)
                go_simp
                refine hK11 _ _ HS ?_
                clear hK11
                try simp only [Act.put, List.setIfInBounds_toArray, List.set_cons_zero, List.set_cons_succ]
                refine wpAnyH_done (by kernel_rfl) ?_ _
                go_wp2
                go_roundw
                case rel => exact ⟨j + 1, by go_num, by omega, by rw [HL.out]; exact HO8.out, _, HA8.out⟩
                case measure => simp [RowKit.intOf]; omega
              · have hjk : j = (ds k).length := by omega
                subst hjk
                rw [List.take_of_length_le (by rw [List.length_map, List.length_map]; exact Nat.le_refl _)] at hO
                have hge : ((ds k).length : Int) ≤ (ds k).length := Int.le_refl _
                have HO9 := Lib.hid hO
                clear hO hA
                go_wp2
                go_roundw
                case rel => exact ⟨k + 1, by go_num, by omega, by rw [viewsUpto, ← List.append_assoc]; exact HO9.out⟩
                case measure => simp [RowKit.intOf]; omega
          · have hk4 : k = 4 := by omega
            subst hk4
            have c7 := hO.box.cell 7 _ rfl
            have HR1 := Lib.hid (HR.out.below hO.bel HB.out)
            have HB1 := Lib.hid (Nat.le_trans HB.out hO.bel.size)
            have HO := Lib.hid hO
            clear hO
            go_wp2_with (first
              | (go_at_call 25; refine (r_fmt56 ls _ B _ HR1.out.rl HB1.out HR1.out.nl HR1.out.jl).mono ?_; rintro e w5 ⟨o, rfl, ho5, hb5⟩)
              | fail)
            have HO5 := Lib.hid (HO.out.below hb5)
            have ho5' : w5.ownsRow wr.heap.size 9 1 o (ls.map lossLine).length (strsV (ls.map lossLine)) := by rw [List.length_map]; exact ho5
            have HA5 := Lib.hid (Beside.made ho5' HO.out.own)
            obtain ⟨ao, co, rfl⟩ := own_slice ho5
            clear ho5 ho5' hb5 c7
            go_loopw [3, 10] (fun out i wq => ∃ j : Nat, i = .int .i64 j ∧ j ≤ ls.length ∧ OutB (repOf s v fs ds ls fa fc A C la lc) (((headLine s v :: fs.map findLine) ++ viewsUpto ds 4) ++ ((ls.map lossLine).map lostLine).take j) w out wq ∧ ∃ nb, Beside (.slice ao ls.length co) (ls.map lossLine) nb out wq) (fun _ i _ => ls.length - (RowKit.intOf i).toNat)
            case atStart => exact ⟨0, rfl, Nat.zero_le _, by rw [List.take_zero, List.append_nil]; exact HO5.out, _, HA5.out⟩
            case round =>
              clear HO5 HA5 HR1 HB1 HO
              obtain ⟨j, rfl, hj, hO, nb, hA⟩ := hrel
              by_cases hjl : j < ls.length
              · have hij : (j : Int) < ls.length := by omega
                have hdk := HR.out.nl
                obtain ⟨g, cap, ho, hc⟩ := hA.cell (j := j) (by rw [List.length_map]; exact hjl)
                injection ho with ho1 ho2 ho3
                subst ho1
                subst ho3
                clear ho2
                have hxz : ((ls.map lossLine)[j]'(by rw [List.length_map]; exact hjl)).size ≤ 560 := by rw [List.getElem_map]; exact lossLine_size _ (HR.out.jl _ (List.getElem_mem hjl))
                have HL := Lib.hid (show ((headLine s v :: fs.map findLine) ++ viewsUpto ds 4) ++ ((ls.map lossLine).map lostLine).take (j + 1) = (((headLine s v :: fs.map findLine) ++ viewsUpto ds 4) ++ ((ls.map lossLine).map lostLine).take j) ++ [⟨#[108, 111, 115, 116, 32]⟩ ++ ((ls.map lossLine)[j]'(by rw [List.length_map]; exact hjl))] from by
                  rw [map_take_snoc lostLine _ j (by rw [List.length_map]; exact hjl), ← List.append_assoc]; rfl)
                have HLEN := Lib.hid (show (((headLine s v :: fs.map findLine) ++ viewsUpto ds 4) ++ ((ls.map lossLine).map lostLine).take j).length ≤ 601 by
                  have := viewsUpto_length ds HR.out.nd 4 (by omega)
                  have := HR.out.nl
                  simp only [List.length_append, List.length_cons, List.length_map, List.length_take]
                  omega)
                generalize ((headLine s v :: fs.map findLine) ++ viewsUpto ds 4) ++ ((ls.map lossLine).map lostLine).take j = L at *
                generalize (ls.map lossLine)[j]'(by rw [List.length_map]; exact hjl) = x at *
                have HOUT := Lib.hid hO
                have HAP := Lib.hid hA
                clear hO hA
                go_wp2_with (first
                  | (at_builtin; refine wpList_append_own_at _ rfl _ _ 39 rfl (w.heap.size + 1) 9 i0 (.string ⟨#[]⟩) 1 16 Tryz.underlying39 hi hz0 hz1 hz2 rfl (by decide) _ _ _ rfl (HOUT.out.own.alloc _) ⟨wr.heap.size, 0, none⟩ 1 1 [.string (⟨#[108, 111, 115, 116, 32]⟩ ++ x)] rfl rfl ?_ ?_ ?_ ?_ ?_ ?_)
                  | go_in)
                any_goals first
                  | rfl
                  | omega
                  | (have := HLEN.out; unfold maxLen; omega)
                  | (have := HLEN.out; omega)
                  | (have := HOUT.out.box.lt; have := (below_alloc1 wr (.cells #[.string (⟨#[108, 111, 115, 116, 32]⟩ ++ x)] 9)).size; omega)
                  | (intro u hu; simp at hu; subst hu; rfl)
                  | (intro j u hj; match j, hj with | 0, hj => simp at hj; subst hj; exact new_one _ _ _ _ rfl)
                intro v8 w8 hown8 hgrow8 _ hblk8
                have HO8 := Lib.hid (HOUT.out.grown (below_alloc1 wr _) hown8 hgrow8)
                have HA8 := Lib.hid (HAP.out.grown (below_alloc1 wr _) hgrow8 (by rw [World.size_alloc]; exact hblk8))
                clear hown8 hgrow8 hblk8 hc
                go_wp2
                go_roundw
                case rel => exact ⟨j + 1, by go_num, by omega, by rw [HL.out]; exact HO8.out, _, HA8.out⟩
                case measure => simp [RowKit.intOf]; omega
              · have hjk : j = ls.length := by omega
                subst hjk
                rw [List.take_of_length_le (by rw [List.length_map, List.length_map]; exact Nat.le_refl _)] at hO
                have hge : (ls.length : Int) ≤ ls.length := Int.le_refl _
                have HO9 := Lib.hid hO
                clear hO hA
                go_wp2
                go_ret
                exact ⟨_, rfl, own_lower HO9.out.own (Nat.le_succ _), HO9.out.bel⟩
end Go.Proofs.YtdjdiiibcocmpaaGreatDoor
