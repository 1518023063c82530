/- Law 58, VerifierLines: the law's body returns true for every report; an argument, as it is read, is a report that lies in the world. Conditions: as each theorem says. -/
import Derived.Test.YtdjdiiibcocmpaaGreatDoorVc
import Derived.Test.YtdjdiiibcocmpaaGreatDoorVd
import Derived.Test.YtdjdiiibcocmpaaGreatDoorAwake
import Derived.ChangeArms
import Derived.OpenShut
import Derived.Deep.Slices
/- Law 58, VerifierLines: whether a list holds a path of more than 500 bytes. Conditions: the rows lie in the world; at most 100 of them. -/
namespace Go.Proofs.YtdjdiiibcocmpaaGreatDoor
open Go.RowKit Go.Lib
set_option maxRecDepth 1000000
set_option maxHeartbeats 3200000
/-- If the one, then the other. -/
def AnyIf (b x : Bool) : Prop := b = true → x = true
def longD (d : Int × ByteArray) : Bool := decide (500 < d.2.size)
theorem cl_diff (d : Int × ByteArray) (w : World) : Calls Tryz.prog 5 #[.agg #[.int .i64 d.1, .string d.2]] w fun e w' => e = .returned (.bool (longD d)) ∧ Below w.heap.size w w' := by
  have hl : longD d = decide (500 < d.2.size) := rfl
  rw [hl]
  clear hl
  obtain ⟨q, p⟩ := d
  show Calls _ _ #[.agg #[.int .i64 q, .string p]] w fun e w' => e = .returned (.bool (decide (500 < p.size))) ∧ Below w.heap.size w w'
  go_enter Tryz.func5, Tryz.ntmps5
  go_wp2
  go_ret
  exact ⟨by simp; omega, below_alloc1 _ _⟩
theorem any_take_diff (l : List (Int × ByteArray)) (k : Nat) (h : k < l.length) : (l.take (k + 1)).any longD = ((l.take k).any longD || longD l[k]) := by
  rw [List.take_succ_eq_append_getElem h, List.any_append]
  simp
theorem ixf_diff (ds : List (Int × ByteArray)) (v : Value) (B : Nat) (w : World) (hv : RowV w (· < B) v 2 (diffCells ds)) (hB : B ≤ w.heap.size) (hl : ds.length ≤ 100) :
    Calls Tryz.prog 19 #[v, .func (.func 5) #[] #[]] w fun e w' => ∃ r : Int, e = .returned (.int .i64 r) ∧ decide (0 ≤ r) = ds.any longD ∧ Below w.heap.size w w' := by
  obtain ⟨a, c, rfl, hrow⟩ := hv
  have hlen : (diffCells ds).length = ds.length := by simp [diffCells]
  have HROW := Lib.hid (show ∀ k, (h : k < ds.length) → ∃ b off, a = some ⟨b, off, none⟩ ∧ b < B ∧ ∀ j x, ([.int .i64 ds[k].1, .string ds[k].2] : List Value)[j]? = some x → w.cell? ⟨b, off + k * 2 + j, none⟩ = some x from fun k h => by
    obtain ⟨b, off, h1, h2, h3⟩ := hrow k (by omega)
    exact ⟨b, off, h1, h2, fun j x hx => h3 j x (by simpa [diffCells] using hx)⟩)
  rw [hlen]
  clear hrow hlen
  go_enter Tryz.func19, Tryz.ntmps19
  go_wp2_with fail
  go_loopw [8] (fun i wr => ∃ k : Nat, i = .int .i64 k ∧ k ≤ ds.length ∧ Hid ((ds.take k).any longD = false) ∧ Below w.heap.size w wr) (fun i _ => ds.length - (RowKit.intOf i).toNat)
  case atStart => exact ⟨0, rfl, Nat.zero_le _, Lib.hid (by simp), Below.refl _ _⟩
  case round =>
    obtain ⟨k, rfl, hk, hany, hbw⟩ := hrel
    by_cases hlt : k < ds.length
    · have hi' : (k : Int) < ds.length := by omega
      obtain ⟨b, off, rfl, hbB, hcw⟩ := HROW.out k hlt
      have HCELL := Lib.hid (fun j x hx => (hbw.cell (Nat.lt_of_lt_of_le hbB hB)).trans (hcw j x hx))
      clear hcw
      have HC := Lib.hid (fun W : World => cl_diff ds[k] W)
      have HN := Lib.hid (any_take_diff ds k hlt)
      have HAN := Lib.hid (show AnyIf (longD ds[k]) (ds.any longD) from fun h => List.any_eq_true.2 ⟨_, List.getElem_mem hlt, h⟩)
      generalize hq : ds[k].1 = q at *
      generalize hp : ds[k].2 = p at *
      clear hq hp
      generalize longD ds[k] = bb at *
      go_wp2_with (first
        | (refine wpList_load_at rfl _ _ rfl b (off + k * 2) [.int .i64 q, .string p] _ rfl HCELL.out Tryz.underlying30 rfl diff_size ?_)
        | (go_at_call 5; refine (HC.out _).mono ?_; rintro e w5 ⟨rfl, hb5⟩; have hb6 := hbw.trans (hb5.mono hbw.size); cases bb)
        | fail)
      · go_roundw
        case rel => exact ⟨k + 1, by go_num, by omega, Lib.hid (by rw [HN.out, hany.out]; rfl), hb6⟩
        case measure => simp [RowKit.intOf]; omega
      · go_ret
        exact ⟨k, rfl, by rw [HAN.out rfl]; simp, hb6⟩
    · have hk' : k = ds.length := by omega
      subst hk'
      have HF := Lib.hid (show ds.any longD = false from by have := hany.out; rwa [List.take_of_length_le (Nat.le_refl _)] at this)
      have hge : (ds.length : Int) ≤ ds.length := Int.le_refl _
      go_wp2
      go_ret
      exact ⟨-1, rfl, by rw [HF.out]; rfl, hbw⟩
theorem cf_diff (ds : List (Int × ByteArray)) (v : Value) (B : Nat) (w : World) (hv : RowV w (· < B) v 2 (diffCells ds)) (hB : B ≤ w.heap.size) (hl : ds.length ≤ 100) :
    Calls Tryz.prog 6 #[v, .func (.func 5) #[] #[]] w fun e w' => e = .returned (.bool (ds.any longD)) ∧ Below w.heap.size w w' := by
  have H := Lib.hid (fun W (h : RowV W (· < B) v 2 (diffCells ds)) (h2 : B ≤ W.heap.size) => ixf_diff ds v B W h h2 hl)
  go_enter Tryz.func6, Tryz.ntmps6
  go_wp2_with fail
  refine (H.out w hv hB).mono ?_
  rintro e w1 ⟨r, rfl, hr, hb1⟩
  replace hr := Lib.hid hr
  go_wp2
  go_ret
  exact ⟨by rw [← hr.out]; rfl, hb1⟩
def longL (d : LossT) : Bool := decide (500 < d.1.size)
theorem cl_loss (d : LossT) (w : World) : Calls Tryz.prog 8 #[.agg #[.string d.1, .int .i64 d.2.1, .int .i64 d.2.2]] w fun e w' => e = .returned (.bool (longL d)) ∧ Below w.heap.size w w' := by
  have hl : longL d = decide (500 < d.1.size) := rfl
  rw [hl]
  clear hl
  obtain ⟨p, q, r⟩ := d
  show Calls _ _ #[.agg #[.string p, .int .i64 q, .int .i64 r]] w fun e w' => e = .returned (.bool (decide (500 < p.size))) ∧ Below w.heap.size w w'
  go_enter Tryz.func8, Tryz.ntmps8
  go_wp2
  go_ret
  exact ⟨by simp; omega, below_alloc1 _ _⟩
theorem any_take_loss (l : List (LossT)) (k : Nat) (h : k < l.length) : (l.take (k + 1)).any longL = ((l.take k).any longL || longL l[k]) := by
  rw [List.take_succ_eq_append_getElem h, List.any_append]
  simp
theorem ixf_loss (ds : List (LossT)) (v : Value) (B : Nat) (w : World) (hv : RowV w (· < B) v 3 (lossCells ds)) (hB : B ≤ w.heap.size) (hl : ds.length ≤ 100) :
    Calls Tryz.prog 20 #[v, .func (.func 8) #[] #[]] w fun e w' => ∃ r : Int, e = .returned (.int .i64 r) ∧ decide (0 ≤ r) = ds.any longL ∧ Below w.heap.size w w' := by
  obtain ⟨a, c, rfl, hrow⟩ := hv
  have hlen : (lossCells ds).length = ds.length := by simp [lossCells]
  have HROW := Lib.hid (show ∀ k, (h : k < ds.length) → ∃ b off, a = some ⟨b, off, none⟩ ∧ b < B ∧ ∀ j x, ([.string ds[k].1, .int .i64 ds[k].2.1, .int .i64 ds[k].2.2] : List Value)[j]? = some x → w.cell? ⟨b, off + k * 3 + j, none⟩ = some x from fun k h => by
    obtain ⟨b, off, h1, h2, h3⟩ := hrow k (by omega)
    exact ⟨b, off, h1, h2, fun j x hx => h3 j x (by simpa [lossCells] using hx)⟩)
  rw [hlen]
  clear hrow hlen
  go_enter Tryz.func20, Tryz.ntmps20
  go_wp2_with fail
  go_loopw [8] (fun i wr => ∃ k : Nat, i = .int .i64 k ∧ k ≤ ds.length ∧ Hid ((ds.take k).any longL = false) ∧ Below w.heap.size w wr) (fun i _ => ds.length - (RowKit.intOf i).toNat)
  case atStart => exact ⟨0, rfl, Nat.zero_le _, Lib.hid (by simp), Below.refl _ _⟩
  case round =>
    obtain ⟨k, rfl, hk, hany, hbw⟩ := hrel
    by_cases hlt : k < ds.length
    · have hi' : (k : Int) < ds.length := by omega
      obtain ⟨b, off, rfl, hbB, hcw⟩ := HROW.out k hlt
      have HCELL := Lib.hid (fun j x hx => (hbw.cell (Nat.lt_of_lt_of_le hbB hB)).trans (hcw j x hx))
      clear hcw
      have HC := Lib.hid (fun W : World => cl_loss ds[k] W)
      have HN := Lib.hid (any_take_loss ds k hlt)
      have HAN := Lib.hid (show AnyIf (longL ds[k]) (ds.any longL) from fun h => List.any_eq_true.2 ⟨_, List.getElem_mem hlt, h⟩)
      generalize hp : ds[k].1 = p at *
      generalize hq : ds[k].2.1 = q at *
      generalize hr : ds[k].2.2 = r at *
      clear hp hq hr
      generalize longL ds[k] = bb at *
      go_wp2_with (first
        | (refine wpList_load_at rfl _ _ rfl b (off + k * 3) [.string p, .int .i64 q, .int .i64 r] _ rfl HCELL.out Tryz.underlying35 rfl loss_size ?_)
        | (go_at_call 8; refine (HC.out _).mono ?_; rintro e w5 ⟨rfl, hb5⟩; have hb6 := hbw.trans (hb5.mono hbw.size); cases bb)
        | fail)
      · go_roundw
        case rel => exact ⟨k + 1, by go_num, by omega, Lib.hid (by rw [HN.out, hany.out]; rfl), hb6⟩
        case measure => simp [RowKit.intOf]; omega
      · go_ret
        exact ⟨k, rfl, by rw [HAN.out rfl]; simp, hb6⟩
    · have hk' : k = ds.length := by omega
      subst hk'
      have HF := Lib.hid (show ds.any longL = false from by have := hany.out; rwa [List.take_of_length_le (Nat.le_refl _)] at this)
      have hge : (ds.length : Int) ≤ ds.length := Int.le_refl _
      go_wp2
      go_ret
      exact ⟨-1, rfl, by rw [HF.out]; rfl, hbw⟩
theorem cf_loss (ds : List (LossT)) (v : Value) (B : Nat) (w : World) (hv : RowV w (· < B) v 3 (lossCells ds)) (hB : B ≤ w.heap.size) (hl : ds.length ≤ 100) :
    Calls Tryz.prog 7 #[v, .func (.func 8) #[] #[]] w fun e w' => e = .returned (.bool (ds.any longL)) ∧ Below w.heap.size w w' := by
  have H := Lib.hid (fun W (h : RowV W (· < B) v 3 (lossCells ds)) (h2 : B ≤ W.heap.size) => ixf_loss ds v B W h h2 hl)
  go_enter Tryz.func7, Tryz.ntmps7
  go_wp2_with fail
  refine (H.out w hv hB).mono ?_
  rintro e w1 ⟨r, rfl, hr, hb1⟩
  replace hr := Lib.hid hr
  go_wp2
  go_ret
  exact ⟨by rw [← hr.out]; rfl, hb1⟩
end Go.Proofs.YtdjdiiibcocmpaaGreatDoor
/- Law 58, VerifierLines: the law's body: it returns true for every report whose rows lie in the world. Conditions: the table of powers of ten; numbers that are ints. -/
namespace Go.Proofs.YtdjdiiibcocmpaaGreatDoor
open Go.RowKit Go.Lib
set_option linter.unusedSimpArgs false
set_option linter.unusedVariables false
set_option maxRecDepth 1000000
set_option maxHeartbeats 6400000
/-- What the world holds of a report of any length. -/
structure RepL (w : World) (B : Nat) (s v : Int) (fs : List FindT) (ds : Nat → List (Int × ByteArray)) (ls : List LossT) (fa : Option Addr) (fc : Nat) (A : Nat → Option Addr) (C : Nat → Nat) (la : Option Addr) (lc : Nat) : Prop where
  hs : isInt s
  hv : isInt v
  rf : RowV w (· < B) (.slice fa fs.length fc) 3 (findCells fs)
  jf : ∀ f ∈ fs, isInt f.1 ∧ isInt f.2.1 ∧ isInt f.2.2
  rd : ∀ k, k < 4 → RowV w (· < B) (.slice (A k) (ds k).length (C k)) 2 (diffCells (ds k))
  rl : RowV w (· < B) (.slice la ls.length lc) 3 (lossCells ls)
  jl : ∀ d ∈ ls, isInt d.2.1 ∧ isInt d.2.2
  zf : fs.length ≤ 9223372036854775807
  zd : ∀ k, k < 4 → (ds k).length ≤ 9223372036854775807
  zl : ls.length ≤ 9223372036854775807
theorem RepL.below {w w' : World} {B n : Nat} {s v : Int} {fs : List FindT} {ds : Nat → List (Int × ByteArray)} {ls : List LossT} {fa : Option Addr} {fc : Nat} {A : Nat → Option Addr} {C : Nat → Nat} {la : Option Addr} {lc : Nat}
    (h : RepL w B s v fs ds ls fa fc A C la lc) (hb : Below n w w') (hn : B ≤ n) : RepL w' B s v fs ds ls fa fc A C la lc :=
  have st : ∀ b o x, b < B → w.cell? ⟨b, o, none⟩ = some x → w'.cell? ⟨b, o, none⟩ = some x := fun _ _ _ hlt hc => (hb.cell (Nat.lt_of_lt_of_le hlt hn)).trans hc
  { h with rf := h.rf.stay st, rd := fun k hk => (h.rd k hk).stay st, rl := h.rl.stay st }
/-- The first so many lists of differences are short. -/
def OkUpto (ds : Nat → List (Int × ByteArray)) (k : Nat) : Prop := ∀ i, i < k → (ds i).length ≤ 100 ∧ (ds i).any longD = false
theorem OkUpto.step {ds : Nat → List (Int × ByteArray)} {k : Nat} (h : OkUpto ds k) (h1 : (ds k).length ≤ 100) (h2 : (ds k).any longD = false) : OkUpto ds (k + 1) := fun i hi => by
  by_cases e : i = k
  · subst e; exact ⟨h1, h2⟩
  · exact h i (by omega)
def OkIf (ds : Nat → List (Int × ByteArray)) (k : Nat) (b : Bool) : Prop := b = false → OkUpto ds (k + 1)
theorem any_false {α : Type} {p : α → Bool} {l : List α} (h : l.any p = false) : ∀ d ∈ l, p d = false := fun d hd => by
  cases hq : p d with
  | false => rfl
  | true => rw [List.any_eq_true.2 ⟨d, hd, hq⟩] at h; cases h
theorem RepL.full {w : World} {B : Nat} {s v : Int} {fs : List FindT} {ds : Nat → List (Int × ByteArray)} {ls : List LossT} {fa : Option Addr} {fc : Nat} {A : Nat → Option Addr} {C : Nat → Nat} {la : Option Addr} {lc : Nat}
    (h : RepL w B s v fs ds ls fa fc A C la lc) (h1 : OkUpto ds 4) (h2 : fs.length ≤ 100) (h3 : ls.length ≤ 100) (h4 : ls.any longL = false) : RepW w B s v fs ds ls fa fc A C la lc where
  hs := h.hs
  hv := h.hv
  nf := h2
  rf := h.rf
  jf := h.jf
  nd := fun k hk => (h1 k hk).1
  rd := h.rd
  jd := fun k hk d hd => by have := any_false (h1 k hk).2 d hd; simpa [longD] using this
  nl := h3
  rl := h.rl
  jl := fun d hd => ⟨by have := any_false h4 d hd; simpa [longL] using this, h.jl d hd⟩
theorem glob_pow : Tryz.prog.globalNamed "internal/strconv.uint64pow10" = some 0 := by kernel_rfl
theorem glob_of_tab {w : World} (h : TabW w) : Go.Ev.Glob (fun b => b < w.heap.size) w := by
  unfold TabW Lib.TabIs World.var? at h
  rw [glob_pow] at h
  simp only [Option.bind_some] at h
  intro x hx
  simp only [Go.Ev.glTab, List.mem_cons, List.not_mem_nil, or_false] at hx
  subst hx
  cases ho : w.heap[0]? with
  | none => rw [ho] at h; cases h
  | some o =>
    rw [ho] at h
    cases o with
    | cells cs t f =>
      injection h with h
      subst h
      exact ⟨lt_of_obj ho, t, f, by rfl⟩
    | _ => cases h
theorem load_box {P : Program} {o : Oper} {a : Act} {W : World} {p : Operand} {ty : TypeId} {g : Nat} {cs : List Value} {d : TypeDesc} (ho : o.op = .load ty p) (hp : a.eval p = .pointer (some ⟨g, 0, none⟩)) (hb : Box ty g cs W) (hu : P.underlying ty = some d)
    (hd : (match d with | .struct _ | .array _ _ => true | _ => false) = true) (hi : (P.info? ty).map (·.size) = some cs.length) : (execOp a.eval o).run P W = .ok (.value (.agg cs.toArray)) W := by
  have hr := run_loadVar_row (P := P) W g ty ty cs.toArray (0, 0) d hb hu hd (by simpa using hi)
  unfold execOp
  simp only [ho, Instr.loadAt, Instr.sureAddr, Sem.run_bind, Sem.run_pure, Result.andThen_ok, hp, hr]
theorem lines_cells {w : World} {base g c : Nat} {L : List ByteArray} (h : w.ownsRow base 9 1 (.slice (some ⟨g, 0, none⟩) L.length c) L.length (strsV L)) : ∀ j, j < L.length → w.cell? ⟨g, 0 + j, none⟩ = some (.string (L.getD j ByteArray.empty)) := fun j hj => by
  rw [Nat.zero_add, h.cellAt j (by omega), strsV, List.getElem?_map, List.getElem?_eq_getElem hj, List.getD_eq_getElem?_getD, List.getElem?_eq_getElem hj]
  rfl
theorem eq_lines {w : World} {b1 b2 : Nat} {o1 o2 : Value} {L : List ByteArray} (h1 : w.ownsRow b1 9 1 o1 L.length (strsV L)) (h2 : w.ownsRow b2 9 1 o2 L.length (strsV L)) (hp : 0 < L.length) (hl : L.length ≤ 601) :
    Calls Tryz.prog 11 #[o1, o2] w fun e w' => e = .returned (.bool true) ∧ Below w.heap.size w w' := by
  rcases h1.2 with ⟨_, h0⟩ | ⟨g1, c1, _, rfl, _⟩
  · omega
  rcases h2.2 with ⟨_, h0⟩ | ⟨g2, c2, _, rfl, _⟩
  · omega
  refine (Tryz.slices_Equal_string g1 0 L.length c1 g2 0 L.length c2 L L w (Nat.le_refl _) (Nat.le_refl _) (by omega) (by omega) (lines_cells h1) (lines_cells h2)).mono ?_
  rintro e w' ⟨rfl, q, rfl⟩
  exact ⟨by simp, below_drewN' (Below.refl _ _) q⟩
theorem law_any (s v : Int) (fs : List FindT) (ds : Nat → List (Int × ByteArray)) (ls : List LossT) (fa : Option Addr) (fc : Nat) (A : Nat → Option Addr) (C : Nat → Nat) (la : Option Addr) (lc : Nat) (B : Nat) (w : World)
    (hT : TabW w) (hR : RepL w B s v fs ds ls fa fc A C la lc) (hB : B ≤ w.heap.size) :
    Calls Tryz.prog 3 #[.agg (repOf s v fs ds ls fa fc A C la lc).toArray] w fun e w' => e = .returned (.bool true) ∧ Below w.heap.size w w' := by
  have HB := Lib.hid hB
  have HR := Lib.hid hR
  have HT := Lib.hid hT
  have hlen8 : (repOf s v fs ds ls fa fc A C la lc).length = 8 := rfl
  have HSo := Lib.hid (fun W : World => p_sound s v fa (A 0) (A 1) (A 2) (A 3) la fs.length fc (ds 0).length (C 0) (ds 1).length (C 1) (ds 2).length (C 2) (ds 3).length (C 3) ls.length lc W)
  have HSr := Lib.hid (fun W : World => r_sound s v fa (A 0) (A 1) (A 2) (A 3) la fs.length fc (ds 0).length (C 0) (ds 1).length (C 1) (ds 2).length (C 2) (ds 3).length (C 3) ls.length lc W)
  have HRV := Lib.hid (show ∀ (g : Nat) (W : World), Box 27 g (repOf s v fs ds ls fa fc A C la lc) W → (∀ k, k < 4 → W.cell? ⟨g, 3 + k, none⟩ = some (.slice (A k) (ds k).length (C k))) ∧ W.cell? ⟨g, 2, none⟩ = some (.slice fa fs.length fc) ∧ W.cell? ⟨g, 7, none⟩ = some (.slice la ls.length lc) from
    fun g W h => ⟨fun k hk => repView h hk, h.cell 2 _ rfl, h.cell 7 _ rfl⟩)
  have HF1 := Lib.hid (fun (W : World) (hT : TabW W) (h : RepW W B s v fs ds ls fa fc A C la lc) (hB : B ≤ W.heap.size) => p_fmt58 s v fs ds ls fa fc A C la lc B W hT h hB)
  have HF2 := Lib.hid (fun (W : World) (h : RepW W B s v fs ds ls fa fc A C la lc) (hB : B ≤ W.heap.size) => r_fmt58 s v fs ds ls fa fc A C la lc B W h hB)
  change Hid (∀ W : World, Calls _ _ #[.agg (repOf s v fs ds ls fa fc A C la lc).toArray] W _) at HSo
  change Hid (∀ W : World, Calls _ _ #[.agg (repOf s v fs ds ls fa fc A C la lc).toArray] W _) at HSr
  generalize soundB v fs.length (ds 0).length (ds 1).length (ds 2).length (ds 3).length ls.length = sb at *
  generalize repOf s v fs ds ls fa fc A C la lc = cs at *
  clear hB hR hT
  have hbx0 : Box 27 w.heap.size cs (w.alloc (.cells cs.toArray 27)) := heap_alloc_last _ _
  have hb0 := below_alloc1 w (.cells cs.toArray 27)
  have HBX0 := Lib.hid hbx0
  have HB0 := Lib.hid hb0
  clear hbx0 hb0
  go_enter Tryz.func3, Tryz.ntmps3
  go_wp2_with (first
    | (go_at_call 4; refine (awake_calls _ (glob_of_tab (HT.out.step HB0.out))).mono ?_; rintro e w1 ⟨rfl, hb1⟩)
    | fail)
  have HBX1 := Lib.hid (HBX0.out.step hb1)
  have HB1 := Lib.hid (HB0.out.trans (hb1.mono HB0.out.size))
  clear hb1 HBX0 HB0
  go_loopw [7] (fun i wr => ∃ k : Nat, i = .int .i64 k ∧ k ≤ 4 ∧ Box 27 w.heap.size cs wr ∧ Below w.heap.size w wr ∧ OkUpto ds k) (fun i _ => 4 - (RowKit.intOf i).toNat)
  case atStart => exact ⟨0, rfl, by omega, HBX1.out, HB1.out, fun i hi => by omega⟩
  case round =>
    clear HBX1 HB1
    obtain ⟨k, rfl, hk, hbx, hbw, hok⟩ := hrel
    obtain ⟨cv, c2, c7⟩ := HRV.out _ _ hbx
    have HBX := Lib.hid hbx
    have HBW := Lib.hid hbw
    have HOK := Lib.hid hok
    have HR1 := Lib.hid (HR.out.below hbw HB.out)
    have HBL := Lib.hid (Nat.le_trans HB.out hbw.size)
    clear hbx hbw hok
    by_cases hlt : k < 4
    · have hi' : (k : Int) < 4 := by omega
      have cvk := cv k hlt
      clear cv c2 c7
      by_cases h100 : 100 < (ds k).length
      · have hi100 : (100 : Int) < (ds k).length := by omega
        go_wp2
        go_ret
        exact ⟨rfl, HBW.out⟩
      · have hi100 : ¬ (100 : Int) < (ds k).length := by omega
        have HC := Lib.hid (cf_diff (ds k) _ B wr (HR1.out.rd k hlt) HBL.out (by omega))
        have HOS := Lib.hid (show OkIf ds k ((ds k).any longD) from fun h => HOK.out.step (by omega) h)
        generalize (ds k).any longD = bb at *
        go_wp2_with (first
          | (go_at_call 6; refine HC.out.mono ?_; rintro e w5 ⟨rfl, hb5⟩; have HB5 := Lib.hid (HBW.out.trans (hb5.mono HBW.out.size)); have HX5 := Lib.hid (HBX.out.step hb5); clear hb5; cases bb)
          | fail)
        · go_roundw
          case rel => exact ⟨k + 1, by go_num, by omega, HX5.out, HB5.out, HOS.out rfl⟩
          case measure => simp [RowKit.intOf]; omega
        · go_ret
          exact ⟨rfl, HB5.out⟩
    · have hk4 : k = 4 := by omega
      subst hk4
      clear cv
      by_cases hf : 100 < fs.length
      · have hi100 : (100 : Int) < fs.length := by omega
        go_wp2
        go_ret
        exact ⟨rfl, HBW.out⟩
      · have hif : ¬ (100 : Int) < fs.length := by omega
        by_cases hl : 100 < ls.length
        · have hi100 : (100 : Int) < ls.length := by omega
          go_wp2
          go_ret
          exact ⟨rfl, HBW.out⟩
        · have hil : ¬ (100 : Int) < ls.length := by omega
          have HC := Lib.hid (cf_loss ls _ B wr HR1.out.rl HBL.out (by omega))
          cases hbb : ls.any longL with
          | true =>
            rw [hbb] at HC
            clear hbb
            go_wp2_with (first
              | (go_at_call 7; refine HC.out.mono ?_; rintro e w5 ⟨rfl, hb5⟩; have HB5 := Lib.hid (HBW.out.trans (hb5.mono HBW.out.size)); clear hb5)
              | fail)
            go_ret
            exact ⟨rfl, HB5.out⟩
          | false =>
            rw [hbb] at HC
            have HW := Lib.hid (HR.out.full HOK.out (by omega) (by omega) hbb)
            have HLL := Lib.hid (show (repLines s v fs ds ls).length ≤ 601 by
              have h1 := viewsUpto_length ds HW.out.nd 4 (by omega)
              have h2 := HW.out.nf
              have h3 := HW.out.nl
              simp only [repLines, List.length_append, List.length_cons, List.length_map]
              omega)
            have HLP := Lib.hid (show 0 < (repLines s v fs ds ls).length by simp [repLines])
            clear hbb
            go_upto_region 12 with (first
              | (go_at_call 7; refine HC.out.mono ?_; rintro e w5 ⟨rfl, hb5⟩; have HB5 := Lib.hid (HBW.out.trans (hb5.mono HBW.out.size)); have HX5 := Lib.hid (HBX.out.step hb5); clear hb5)
              | fail)
            clear HC HBX HBW HOK HR1 HBL c2 c7 HRV
            have HMK := Lib.hid (show ∀ W, Below w5.heap.size w5 W → Box 27 w.heap.size cs W from fun W h => HX5.out.step h)
            have HTB := Lib.hid (show ∀ W, Below w5.heap.size w5 W → TabW W from fun W h => HT.out.step (HB5.out.trans (h.mono HB5.out.size)))
            have HRB := Lib.hid (show ∀ W, Below w5.heap.size w5 W → RepW W B s v fs ds ls fa fc A C la lc from fun W h => HW.out.below (HB5.out.trans (h.mono HB5.out.size)) HB.out)
            have HBB := Lib.hid (show ∀ W, Below w5.heap.size w5 W → B ≤ W.heap.size from fun W h => Nat.le_trans HB.out (HB5.out.trans (h.mono HB5.out.size)).size)
            refine wp_region_held (S := fun W : World => Box 27 w.heap.size cs W) (by kernel_rfl) ?_
            change wpAnyH _ _ _ _ _ _ _ _ (World.drew w5)
            have HS : (fun W : World => Box 27 w.heap.size cs W) (World.drew w5) := HX5.out
            refine wpAnyH_take (i := 0) (v := .agg cs.toArray) rfl (by kernel_rfl) (by kernel_rfl) (by kernel_rfl) (fun _ _ _ h => h) (Or.inl ⟨by rfl, fun W hW => load_box rfl rfl hW Tryz.underlying27 rfl (by rw [hlen8]; exact rep_size)⟩) HS ?_
            try simp only [Act.put, List.setIfInBounds_toArray, List.set_cons_zero, List.set_cons_succ]
            refine wpAnyH_take (i := 2) (v := .agg cs.toArray) rfl (by kernel_rfl) (by kernel_rfl) (by kernel_rfl) (fun _ _ _ h => h) (Or.inl ⟨by rfl, fun W hW => load_box rfl rfl hW Tryz.underlying27 rfl (by rw [hlen8]; exact rep_size)⟩) HS ?_
            try simp only [Act.put, List.setIfInBounds_toArray, List.set_cons_zero, List.set_cons_succ]
            refine held_step (i := 1) rfl (by kernel_rfl) (fun K1 hK1 => ?_)
            rw [if_pos (by rfl)]
            go_simp
            refine (HSo.out _).mono ?_
            rintro e w2 ⟨rfl, hb2⟩
            have FR2 := Lib.hid (show Below w5.heap.size w5 w2 from by first | exact hb2 | exact (below_drew (Below.refl w5.heap.size w5)).trans hb2)
            clear hb2
            replace HS : (fun W : World => Box 27 w.heap.size cs W) w2 := HMK.out _ FR2.out
            refine hK1 _ _ HS ?_
            clear hK1
            try simp only [Act.put, List.setIfInBounds_toArray, List.set_cons_zero, List.set_cons_succ]
            refine held_step (i := 3) rfl (by kernel_rfl) (fun K3 hK3 => ?_)
            rw [if_pos (by rfl)]
            go_simp
            refine (HSr.out _).mono ?_
            rintro e w3 ⟨rfl, hb3⟩
            have FR3 := Lib.hid (show Below w5.heap.size w5 w3 from FR2.out.trans (hb3.mono FR2.out.size))
            clear hb3
            replace HS : (fun W : World => Box 27 w.heap.size cs W) w3 := HMK.out _ FR3.out
            refine hK3 _ _ HS ?_
            clear hK3
            try simp only [Act.put, List.setIfInBounds_toArray, List.set_cons_zero, List.set_cons_succ]
            refine wpAnyH_take (i := 4) (v := .bool true) rfl (by kernel_rfl) (by kernel_rfl) (by kernel_rfl) (fun _ _ _ h => h) (Or.inl ⟨by rfl, fun W hW => ?_⟩) HS ?_
            · clear HS
              go_simp
            try simp only [Act.put, List.setIfInBounds_toArray, List.set_cons_zero, List.set_cons_succ]
            refine wpAnyH_take (i := 5) (v := .bool true) rfl (by kernel_rfl) (by kernel_rfl) (by kernel_rfl) (fun _ _ _ h => h) (Or.inl ⟨by rfl, fun W hW => ?_⟩) HS ?_
            · clear HS
              go_simp
            try simp only [Act.put, List.setIfInBounds_toArray, List.set_cons_zero, List.set_cons_succ]
            refine wpAnyH_take (i := 6) (v := .agg cs.toArray) rfl (by kernel_rfl) (by kernel_rfl) (by kernel_rfl) (fun _ _ _ h => h) (Or.inl ⟨by rfl, fun W hW => load_box rfl rfl hW Tryz.underlying27 rfl (by rw [hlen8]; exact rep_size)⟩) HS ?_
            try simp only [Act.put, List.setIfInBounds_toArray, List.set_cons_zero, List.set_cons_succ]
            refine wpAnyH_take (i := 8) (v := .agg cs.toArray) rfl (by kernel_rfl) (by kernel_rfl) (by kernel_rfl) (fun _ _ _ h => h) (Or.inl ⟨by rfl, fun W hW => load_box rfl rfl hW Tryz.underlying27 rfl (by rw [hlen8]; exact rep_size)⟩) HS ?_
            try simp only [Act.put, List.setIfInBounds_toArray, List.set_cons_zero, List.set_cons_succ]
            refine held_step (i := 7) rfl (by kernel_rfl) (fun K7 hK7 => ?_)
            rw [if_pos (by rfl)]
            go_simp
            refine (HF1.out _ (HTB.out _ FR3.out) (HRB.out _ FR3.out) (HBB.out _ FR3.out)).mono ?_
            rintro e w4 ⟨o1, rfl, ho1, hb4⟩
            have FR4 := Lib.hid (show Below w5.heap.size w5 w4 from FR3.out.trans (hb4.mono FR3.out.size))
            clear hb4
            replace HS : (fun W : World => Box 27 w.heap.size cs W) w4 := HMK.out _ FR4.out
            refine hK7 _ _ HS ?_
            clear hK7
            try simp only [Act.put, List.setIfInBounds_toArray, List.set_cons_zero, List.set_cons_succ]
            refine held_step (i := 9) rfl (by kernel_rfl) (fun K9 hK9 => ?_)
            rw [if_pos (by rfl)]
            go_simp
            refine (HF2.out _ (HRB.out _ FR4.out) (HBB.out _ FR4.out)).mono ?_
            rintro e w7 ⟨o2, rfl, ho2, hb7⟩
            have FR7 := Lib.hid (show Below w5.heap.size w5 w7 from FR4.out.trans (hb7.mono FR4.out.size))
            have HE := Lib.hid (fun (W : World) (h : Below w7.heap.size w7 W) => eq_lines (own_below' (own_below' ho1 hb7) h) (own_below' ho2 h) HLP.out HLL.out)
            clear hb7
            replace HS : (fun W : World => Box 27 w.heap.size cs W) w7 := HMK.out _ FR7.out
            refine hK9 _ _ HS ?_
            clear hK9
            try simp only [Act.put, List.setIfInBounds_toArray, List.set_cons_zero, List.set_cons_succ]
            obtain ⟨a1, k1, rfl⟩ := own_slice ho1
            obtain ⟨a2, k2, rfl⟩ := own_slice ho2
            refine held_step (i := 10) rfl (by kernel_rfl) (fun K10 hK10 => ?_)
            rw [if_pos (by rfl)]
            go_simp
            refine (HE.out _ (Below.refl _ _)).mono ?_
            rintro e w8 ⟨rfl, hb8⟩
            have FR8 := Lib.hid (show Below w5.heap.size w5 w8 from FR7.out.trans (hb8.mono FR7.out.size))
            clear hb8
            replace HS : (fun W : World => Box 27 w.heap.size cs W) w8 := HMK.out _ FR8.out
            refine hK10 _ _ HS ?_
            clear hK10
            try simp only [Act.put, List.setIfInBounds_toArray, List.set_cons_zero, List.set_cons_succ]
            refine wpAnyH_take (i := 11) (v := .bool true) rfl (by kernel_rfl) (by kernel_rfl) (by kernel_rfl) (fun _ _ _ h => h) (Or.inl ⟨by rfl, fun W hW => ?_⟩) HS ?_
            · clear HS
              go_simp
            try simp only [Act.put, List.setIfInBounds_toArray, List.set_cons_zero, List.set_cons_succ]
            refine held_one (i := 12) rfl rfl (by kernel_rfl) (fun K12 hK12 => ?_)
            go_simp
            refine hK12 _ _ HS ?_
            clear hK12
            try simp only [Act.put, List.setIfInBounds_toArray, List.set_cons_zero, List.set_cons_succ]
            refine wpAnyH_done (by kernel_rfl) ?_ _
            go_wp2
            go_ret
            exact ⟨rfl, HB5.out.trans (FR8.out.mono HB5.out.size)⟩
end Go.Proofs.YtdjdiiibcocmpaaGreatDoor
/- Law 58, VerifierLines: an argument of the type of reports, as it is read, is a plain report whose rows lie in the world. Conditions: none. -/
namespace Go.Proofs.YtdjdiiibcocmpaaGreatDoor
open Go.RowKit Go.ChangeShapes Go.WideShapes Go.Deep
set_option maxRecDepth 1000000
set_option maxHeartbeats 3200000
theorem cellsRep : Tryz.prog.cellsOf 27 = 8 := by kernel_rfl
theorem cellsFind : Tryz.prog.cellsOf 81 = 3 := by kernel_rfl
theorem cellsDiff : Tryz.prog.cellsOf 30 = 2 := by kernel_rfl
theorem cellsLoss : Tryz.prog.cellsOf 35 = 3 := by kernel_rfl
theorem cellsStr : Tryz.prog.cellsOf 9 = 1 := by kernel_rfl
theorem cellsInt : Tryz.prog.cellsOf 3 = 1 := by kernel_rfl
theorem cellsFs : Tryz.prog.cellsOf 22 = 1 := by kernel_rfl
theorem cellsDs : Tryz.prog.cellsOf 23 = 1 := by kernel_rfl
theorem cellsDd : Tryz.prog.cellsOf 24 = 4 := by kernel_rfl
theorem cellsLs : Tryz.prog.cellsOf 25 = 1 := by kernel_rfl
theorem one_of_cells {cs : List Value} {i : Nat} {v : Value} (h : (cs.drop i).take 1 = [v]) : cs[i]? = some v := by
  have h1 : ((cs.drop i).take 1)[0]? = some v := by rw [h]; rfl
  rw [List.getElem?_take, if_pos (by omega), List.getElem?_drop, Nat.add_zero] at h1
  exact h1
section
variable {H : Type} {enc : TypeId × Value → H} {w : World} {base : Nat} {spare : Nat → Bool} {held : Bool}
/-- A slice of plain structs, as it is read. -/
theorem open_row {α : Type} [Inhabited α] {t e : TypeId} {m fuel : Nat} {cs : List Value} {x : DataW H × List MemPlace} (cells : α → List Value) (Q : α → Prop) (ht : Tryz.prog.underlying t = some (.slice e)) (ce : Tryz.prog.cellsOf e = m) (hlen : ∀ a, (cells a).length = m) (hm : 0 < m)
    (elem : ∀ n cs' y, DataW.trod enc Tryz.prog w base spare held n e cs' = some y → ∃ a, cs' = cells a ∧ Q a) (h : DataW.trod enc Tryz.prog w base spare held fuel t cs = some x) :
    ∃ (l : List α) (a : Option Addr) (c : Nat), cs = [.slice a l.length c] ∧ RowV w (· < w.heap.size) (.slice a l.length c) m (l.map cells) ∧ (∀ d ∈ l, Q d) ∧ l.length ≤ 9223372036854775807 := by
  rcases DataW.trod_slice ht h with ⟨rfl, rfl⟩ | ⟨a, len, cap, elems, rest, n, rfl, rfl, rfl, hb, hl, hmx, hlen', hel, -, -⟩
  · exact ⟨[], none, 0, rfl, ⟨none, 0, rfl, fun k hk => by simp at hk⟩, fun d hd => (by cases hd), by simp⟩
  · have each : ∀ k, k < len → ∃ q : α, (∀ j v, (cells q)[j]? = some v → w.cell? (a.add (k * m + j)) = some v) ∧ Q q := fun k hk => by
      have h1 := hel k hk
      rw [ce, List.getElem?_eq_getElem (by omega)] at h1
      rcases hcs : w.cells? base (a.add (k * m)) m with _ | cs'
      · rw [hcs] at h1; cases h1
      · rw [hcs] at h1
        obtain ⟨-, h3, h4⟩ := World.cells?_some hcs
        obtain ⟨q, hq, hQ⟩ := elem n cs' _ h1
        refine ⟨q, fun j v hj => ?_, hQ⟩
        have hjm : j < m := by rw [← hlen q]; exact (List.getElem?_eq_some_iff.1 hj).1
        have := h4 j hjm
        rw [add_add] at this
        rw [this, hq]
        exact hj
    obtain ⟨S, hS⟩ := choose_lt each
    have hL : ((List.range len).map S).length = len := by simp
    refine ⟨(List.range len).map S, some a, cap, by rw [hL], ?_, fun d hd => ?_, by rw [hL]; unfold maxLen at hmx; omega⟩
    · refine ⟨some a, cap, by simp, fun k hk => ?_⟩
      have hk' : k < len := by simpa using hk
      have hg : ((List.range len).map S |>.map cells)[k] = cells (S k) := by simp
      obtain ⟨q1, _⟩ := hS k hk'
      have hm0 : ∃ v0, (cells (S k))[0]? = some v0 := ⟨_, List.getElem?_eq_getElem (by rw [hlen]; exact hm)⟩
      obtain ⟨v0, hv0⟩ := hm0
      obtain ⟨b, off, spot⟩ := a
      have hs : spot = none := by
        obtain ⟨v00, hv00⟩ : ∃ v0, (cells (S 0))[0]? = some v0 := ⟨_, List.getElem?_eq_getElem (by rw [hlen]; exact hm)⟩
        have := World.cell?_spot ((hS 0 (by omega)).1 0 v00 hv00)
        simpa [Addr.add] using this
      subst hs
      have ha : ∀ m, (⟨b, off, none⟩ : Addr).add m = ⟨b, off + m, none⟩ := fun m => by unfold Addr.add; split <;> simp_all
      refine ⟨b, off, rfl, ?_, fun j v hj => ?_⟩
      · have := q1 0 v0 hv0
        rw [ha] at this
        exact World.block_lt_of_cell? _ _ this
      · rw [hg] at hj
        have := q1 j v hj
        rw [ha] at this
        rw [Nat.add_assoc]
        exact this
    · obtain ⟨k, hk, rfl⟩ := List.mem_map.1 hd
      exact (hS k (List.mem_range.1 hk)).2
theorem int_of_wf {n : Int} (h : (Lit.int .i64 n).wf = true) : isInt n := by
  have h1 : IntKind.i64.min ≤ n ∧ n ≤ 9223372036854775807 := by simpa [Lit.wf] using h
  have h2 : IntKind.i64.min = -9223372036854775808 := by decide
  rw [h2] at h1
  exact h1
theorem open_int {fuel : Nat} {cs : List Value} {x : DataW H × List MemPlace} {i : Nat} (h : DataW.trod enc Tryz.prog w base spare held fuel 3 ((cs.drop i).take 1) = some x) : ∃ n, cs[i]? = some (.int .i64 n) ∧ isInt n := by
  obtain ⟨n, h1, _, h3⟩ := DataW.trod_int Tryz.underlying3 h
  exact ⟨n, one_of_cells h1, int_of_wf h3⟩
theorem open_str {fuel : Nat} {cs : List Value} {x : DataW H × List MemPlace} {i : Nat} (h : DataW.trod enc Tryz.prog w base spare held fuel 9 ((cs.drop i).take 1) = some x) : ∃ s, cs[i]? = some (.string s) := by
  obtain ⟨s, h1, _, _⟩ := DataW.trod_string Tryz.underlying9 h
  exact ⟨s, one_of_cells h1⟩
theorem open_find (n : Nat) (cs : List Value) (y : DataW H × List MemPlace) (h : DataW.trod enc Tryz.prog w base spare held n 81 cs = some y) :
    ∃ a : FindT, cs = [.int .i64 a.1, .int .i64 a.2.1, .int .i64 a.2.2] ∧ (isInt a.1 ∧ isInt a.2.1 ∧ isInt a.2.2) := by
  obtain ⟨xs, k, rfl, _, hl, hx, hf⟩ := DataW.trod_struct Tryz.underlying81 h
  have g0 : DataW.trod enc Tryz.prog w base spare held k 3 ((cs.drop 0).take (Tryz.prog.cellsOf 3)) = xs[0]? := hf 0 _ rfl
  have g1 : DataW.trod enc Tryz.prog w base spare held k 3 ((cs.drop 1).take (Tryz.prog.cellsOf 3)) = xs[1]? := hf 1 _ rfl
  have g2 : DataW.trod enc Tryz.prog w base spare held k 3 ((cs.drop 2).take (Tryz.prog.cellsOf 3)) = xs[2]? := hf 2 _ rfl
  rw [cellsInt] at g0 g1 g2
  rw [cellsFind] at hl
  match xs, hx, cs, hl with
  | [y0, y1, y2], _, [v0, v1, v2], _ =>
    obtain ⟨a, e0, w0⟩ := open_int (show _ = some y0 from g0)
    obtain ⟨b, e1, w1⟩ := open_int (show _ = some y1 from g1)
    obtain ⟨c, e2, w2⟩ := open_int (show _ = some y2 from g2)
    exact ⟨(a, b, c), by simp at e0 e1 e2; rw [e0, e1, e2], w0, w1, w2⟩
theorem open_diff (n : Nat) (cs : List Value) (y : DataW H × List MemPlace) (h : DataW.trod enc Tryz.prog w base spare held n 30 cs = some y) :
    ∃ a : Int × ByteArray, cs = [.int .i64 a.1, .string a.2] ∧ True := by
  obtain ⟨xs, k, rfl, _, hl, hx, hf⟩ := DataW.trod_struct Tryz.underlying30 h
  have g0 : DataW.trod enc Tryz.prog w base spare held k 3 ((cs.drop 0).take (Tryz.prog.cellsOf 3)) = xs[0]? := hf 0 _ rfl
  have g1 : DataW.trod enc Tryz.prog w base spare held k 9 ((cs.drop 1).take (Tryz.prog.cellsOf 9)) = xs[1]? := hf 1 _ rfl
  rw [cellsInt] at g0
  rw [cellsStr] at g1
  rw [cellsDiff] at hl
  match xs, hx, cs, hl with
  | [y0, y1], _, [v0, v1], _ =>
    obtain ⟨a, e0, _⟩ := open_int (show _ = some y0 from g0)
    obtain ⟨b, e1⟩ := open_str (show _ = some y1 from g1)
    exact ⟨(a, b), by simp at e0 e1; rw [e0, e1], trivial⟩
theorem open_loss (n : Nat) (cs : List Value) (y : DataW H × List MemPlace) (h : DataW.trod enc Tryz.prog w base spare held n 35 cs = some y) :
    ∃ a : LossT, cs = [.string a.1, .int .i64 a.2.1, .int .i64 a.2.2] ∧ (isInt a.2.1 ∧ isInt a.2.2) := by
  obtain ⟨xs, k, rfl, _, hl, hx, hf⟩ := DataW.trod_struct Tryz.underlying35 h
  have g0 : DataW.trod enc Tryz.prog w base spare held k 9 ((cs.drop 0).take (Tryz.prog.cellsOf 9)) = xs[0]? := hf 0 _ rfl
  have g1 : DataW.trod enc Tryz.prog w base spare held k 3 ((cs.drop 1).take (Tryz.prog.cellsOf 3)) = xs[1]? := hf 1 _ rfl
  have g2 : DataW.trod enc Tryz.prog w base spare held k 3 ((cs.drop 2).take (Tryz.prog.cellsOf 3)) = xs[2]? := hf 2 _ rfl
  rw [cellsInt] at g1 g2
  rw [cellsStr] at g0
  rw [cellsLoss] at hl
  match xs, hx, cs, hl with
  | [y0, y1, y2], _, [v0, v1, v2], _ =>
    obtain ⟨a, e0⟩ := open_str (show _ = some y0 from g0)
    obtain ⟨b, e1, w1⟩ := open_int (show _ = some y1 from g1)
    obtain ⟨c, e2, w2⟩ := open_int (show _ = some y2 from g2)
    exact ⟨(a, b, c), by simp at e0 e1 e2; rw [e0, e1, e2], w1, w2⟩
/-- A report, as it is read. -/
theorem open_report {fuel : Nat} {cs : List Value} {x : DataW H × List MemPlace} (h : DataW.trod enc Tryz.prog w base spare held fuel 27 cs = some x) :
    ∃ s v fs ds ls fa fc A C la lc, cs = repOf s v fs ds ls fa fc A C la lc ∧ RepL w w.heap.size s v fs ds ls fa fc A C la lc := by
  obtain ⟨xs, k, rfl, _, hl, hx, hf⟩ := DataW.trod_struct Tryz.underlying27 h
  have g0 : DataW.trod enc Tryz.prog w base spare held k 3 ((cs.drop 0).take (Tryz.prog.cellsOf 3)) = xs[0]? := hf 0 _ rfl
  have g1 : DataW.trod enc Tryz.prog w base spare held k 3 ((cs.drop 1).take (Tryz.prog.cellsOf 3)) = xs[1]? := hf 1 _ rfl
  have g2 : DataW.trod enc Tryz.prog w base spare held k 22 ((cs.drop 2).take (Tryz.prog.cellsOf 22)) = xs[2]? := hf 2 _ rfl
  have g3 : DataW.trod enc Tryz.prog w base spare held k 24 ((cs.drop 3).take (Tryz.prog.cellsOf 24)) = xs[3]? := hf 3 _ rfl
  have g4 : DataW.trod enc Tryz.prog w base spare held k 25 ((cs.drop 7).take (Tryz.prog.cellsOf 25)) = xs[4]? := hf 4 _ rfl
  rw [cellsInt] at g0 g1
  rw [cellsFs] at g2
  rw [cellsDd] at g3
  rw [cellsLs] at g4
  rw [cellsRep] at hl
  match xs, hx, cs, hl with
  | [y0, y1, y2, y3, y4], _, [v0, v1, v2, v3, v4, v5, v6, v7], _ =>
    obtain ⟨s, e0, w0⟩ := open_int (show _ = some y0 from g0)
    obtain ⟨v, e1, w1⟩ := open_int (show _ = some y1 from g1)
    obtain ⟨fs, fa, fc, e2, rf, jf, zf⟩ := open_row (fun d : FindT => [.int .i64 d.1, .int .i64 d.2.1, .int .i64 d.2.2]) (fun a => isInt a.1 ∧ isInt a.2.1 ∧ isInt a.2.2) Tryz.underlying22 cellsFind (fun _ => rfl) (by omega) open_find (show _ = some y2 from g2)
    obtain ⟨ls, la, lc, e4, rl, jl, zl⟩ := open_row (fun d : LossT => [.string d.1, .int .i64 d.2.1, .int .i64 d.2.2]) (fun a => isInt a.2.1 ∧ isInt a.2.2) Tryz.underlying25 cellsLoss (fun _ => rfl) (by omega) open_loss (show _ = some y4 from g4)
    obtain ⟨zs, m, _, _, _, hz, hd⟩ := DataW.trod_array Tryz.underlying24 (show _ = some y3 from g3)
    have each : ∀ i, i < 4 → ∃ q : List (Int × ByteArray) × Option Addr × Nat, [v3, v4, v5, v6][i]? = some (.slice q.2.1 q.1.length q.2.2) ∧ RowV w (· < w.heap.size) (.slice q.2.1 q.1.length q.2.2) 2 (diffCells q.1) ∧ q.1.length ≤ 9223372036854775807 := fun i hi => by
      have h1 := hd i hi
      rw [cellsDs, Nat.mul_one, List.getElem?_eq_getElem (by omega)] at h1
      obtain ⟨l, a, c, e, r, _, z⟩ := open_row (fun d : Int × ByteArray => [.int .i64 d.1, .string d.2]) (fun _ => True) Tryz.underlying23 cellsDiff (fun _ => rfl) (by omega) open_diff h1
      exact ⟨(l, a, c), one_of_cells (cs := [v3, v4, v5, v6]) e, r, z⟩
    obtain ⟨S, hS⟩ := choose_lt each
    refine ⟨s, v, fs, fun i => (S i).1, ls, fa, fc, fun i => (S i).2.1, fun i => (S i).2.2, la, lc, ?_, ⟨w0, w1, rf, jf, fun i hi => (hS i hi).2.1, rl, jl, zf, fun i hi => (hS i hi).2.2, zl⟩⟩
    have h3 := (hS 0 (by omega)).1
    have h4 := (hS 1 (by omega)).1
    have h5 := (hS 2 (by omega)).1
    have h6 := (hS 3 (by omega)).1
    simp at e0 e1 h3 h4 h5 h6
    simp only [List.drop_succ_cons, List.drop_zero, List.take_succ_cons, List.take_zero, List.cons.injEq, and_true] at e2 e4
    rw [e0, e1, e2, h3, h4, h5, h6, e4]
    rfl
end
end Go.Proofs.YtdjdiiibcocmpaaGreatDoor
