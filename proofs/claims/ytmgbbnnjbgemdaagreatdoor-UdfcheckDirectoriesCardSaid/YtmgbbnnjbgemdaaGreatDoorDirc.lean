/- Law 45, UdfcheckDirectories: walks of the reference: entries, names, CheckDirectory. -/
import Derived.Test.YtmgbbnnjbgemdaaGreatDoorDirb
import Derived.WalkKit
import Derived.Laws.Rows
import Derived.Laws.CopyRow
import Derived.Laws.CopyOwn
import Derived.Deep.WholeRow
import Derived.Test.YtmgbbnnjbgemdaaGreatDoorDira
import Derived.Deep.CutRange
/- Law 45, directories: the reference's test of an entry. -/
namespace Go.Proofs.YtmgbbnnjbgemdaaGreatDoor
open Go.RowKit
set_option maxRecDepth 1000000
set_option maxHeartbeats 800000
/-- An entry as the model holds it. -/
def fidV (t : ByteArray) (hid dir del par met : Bool) (b p u : Nat) : Value := .agg #[.string t, .bool hid, .bool dir, .bool del, .bool par, .bool met, .int .i64 b, .int .i64 p, .int .i64 u]
def entryOK (cs : List Nat) (dir par : Bool) : Bool := if par then dir && cs.isEmpty else !cs.isEmpty
theorem isEmpty_str {t : ByteArray} {cs : List Nat} (ht : t.data.toList = encs cs) : t.toList.isEmpty = cs.isEmpty := by
  rw [ByteArray.toList_eq, ht]
  cases cs with
  | nil => rfl
  | cons c l =>
    rw [encs_cons]
    have := enc_pos c
    cases h : enc c with
    | nil => rw [h] at this; simp at this
    | cons a b => rfl
theorem r_entry (t : ByteArray) (cs : List Nat) (hid dir del par met : Bool) (b p u : Nat) (w : World) (ht : t.data.toList = encs cs) (hc : ∀ c ∈ cs, isChar c = true) (hz : t.size ≤ 65536) (hq : sqz cs ≤ 255)
    (hb : b < 4294967296) (hp : p < 65536) (hu : u < 4294967296) :
    Calls Tryz.prog 52 #[fidV t hid dir del par met b p u] w fun e w' => e = .returned (.bool (entryOK cs dir par)) ∧ Below w.heap.size w w' := by
  have hE := isEmpty_str ht
  have HW := Lib.hid (fun (n : Nat) (hn : n < 4294967296) (W : World) => r_word n W hn)
  have HC := Lib.hid (fun W : World => r_compress t cs W ht hc hz)
  clear ht hc
  unfold fidV
  have hp0 : ¬ (p : Int) < 0 := by omega
  have hp1 : ¬ (65535 : Int) < (p : Int) := by omega
  have hpd0 : decide ((p : Int) < 0) = false := by simp
  have hpd1 : decide ((65535 : Int) < (p : Int)) = false := by simp; omega
  have hcell : ∀ k : Nat, ∀ v, (#[Value.string t, .bool hid, .bool dir, .bool del, .bool par, .bool met, .int .i64 b, .int .i64 p, .int .i64 u] : Array Value)[k]? = some v → (w.alloc (.cells #[Value.string t, .bool hid, .bool dir, .bool del, .bool par, .bool met, .int .i64 b, .int .i64 p, .int .i64 u] 54)).cell? ⟨w.heap.size, k, none⟩ = some v := by
    intro k v hv
    rw [World.cell?_alloc_at _ _ _ _ rfl]; exact hv
  have c0 := hcell 0 _ rfl
  have c2 := hcell 2 _ rfl
  have c4 := hcell 4 _ rfl
  have c6 := hcell 6 _ rfl
  have c7 := hcell 7 _ rfl
  have c8 := hcell 8 _ rfl
  have hbel : Below w.heap.size w (w.alloc (.cells #[Value.string t, .bool hid, .bool dir, .bool del, .bool par, .bool met, .int .i64 b, .int .i64 p, .int .i64 u] 54)) := (Below.refl _ _).alloc (Nat.le_refl _) _
  clear hcell
  go_enter Tryz.func52, Tryz.ntmps52
  go_wp2_with fail
  refine (HW.out b hb _).mono ?_
  rintro e w1 ⟨rfl, rfl⟩
  go_wp2_with fail
  refine (HW.out u hu _).mono ?_
  rintro e w1 ⟨rfl, rfl⟩
  cases par
  · go_wp2_with fail
    refine (HC.out _).mono ?_
    rintro e w2 ⟨s, rfl, hs, hb2⟩
    cases he : cs.isEmpty
    · have h1 : 1 ≤ sqz cs := by unfold sqz; rw [he]; simp
      go_wp2
      go_ret
      exact ⟨ret_bool' (by simp [entryOK, he] <;> omega), hbel.trans (hb2.mono hbel.size)⟩
    · have h1 : sqz cs = 0 := by unfold sqz; rw [he]; rfl
      go_wp2
      go_ret
      exact ⟨ret_bool' (by simp [entryOK, he] <;> omega), hbel.trans (hb2.mono hbel.size)⟩
  · cases dir
    · go_wp2
      go_ret
      exact ⟨ret_bool' (by simp [entryOK]), hbel⟩
    · go_wp2
      go_ret
      exact ⟨ret_bool' (by simp [entryOK]), hbel⟩
end Go.Proofs.YtmgbbnnjbgemdaaGreatDoor

/- Law 45, directories: the reference's decoding of an entry. -/
namespace Go.Proofs.YtmgbbnnjbgemdaaGreatDoor
open Go.RowKit
set_option maxRecDepth 1000000
set_option maxHeartbeats 1600000
def bit (c k : Nat) : Bool := decide (c / 2 ^ k % 2 = 1)
/-- What a decoding comes out as. -/
def DOut (o : Option (FidS × Nat)) (v : Value) (n er : Int) : Prop := match o with
  | some (f, m) => (∃ t : ByteArray, v = fidV t f.hidden f.directory f.deleted f.parent f.metadata f.block f.part f.unique ∧ t.data.toList = f.name) ∧ n = m ∧ er = 0
  | none => er ≠ 0
def DOutS (o : Option (FidS × Nat)) (v : Value) (n er : Int) : Prop := (∃ vs : Array Value, v = .agg vs ∧ vs.size = 9 ∧ vs.all (·.oneCell') = true) ∧ DOut o v n er
theorem chars1_len : ∀ (l : List UInt8) (cs : List Nat), chars1 l = some cs → cs.length = l.length ∧ (∀ c ∈ cs, isChar c = true) ∧ (∀ c ∈ cs, c ≤ 255)
  | [], cs, h => by simp [chars1] at h; subst h; simp
  | b :: l, cs, h => by
    rw [chars1] at h
    by_cases hb : isChar b.toNat = true
    · rw [if_pos hb] at h
      obtain ⟨cs', h1, rfl⟩ := Option.map_eq_some_iff.1 h
      obtain ⟨h2, h3, h4⟩ := chars1_len l cs' h1
      have hb2 : b.toNat < 256 := b.toNat_lt
      refine ⟨by simp [h2], ?_, ?_⟩
      · intro c hc; rcases List.mem_cons.1 hc with rfl | hc
        · exact hb
        · exact h3 c hc
      · intro c hc; rcases List.mem_cons.1 hc with rfl | hc
        · omega
        · exact h4 c hc
    · rw [if_neg hb] at h; cases h
theorem chars2_len : ∀ (l : List UInt8) (cs : List Nat), chars2 l = some cs → 2 * cs.length = l.length ∧ (∀ c ∈ cs, isChar c = true)
  | [], cs, h => by simp [chars2] at h; subst h; simp
  | [_], cs, h => by simp [chars2] at h
  | a :: b :: l, cs, h => by
    rw [chars2] at h
    by_cases hb : isChar (a.toNat * 256 + b.toNat) = true
    · rw [if_pos hb] at h
      obtain ⟨cs', h1, rfl⟩ := Option.map_eq_some_iff.1 h
      obtain ⟨h2, h3⟩ := chars2_len l cs' h1
      refine ⟨by simp; omega, ?_⟩
      intro c hc; rcases List.mem_cons.1 hc with rfl | hc
      · exact hb
      · exact h3 c hc
    · rw [if_neg hb] at h; cases h
theorem chars_len {l : List UInt8} {cs : List Nat} (h : chars l = some cs) (hl : l.length ≤ 255) : (∀ c ∈ cs, isChar c = true) ∧ sqz cs ≤ 255 ∧ cs.length ≤ 254 := by
  cases l with
  | nil => simp [chars] at h; subst h; simp [sqz]
  | cons b l =>
    rw [chars] at h
    rw [List.length_cons] at hl
    by_cases h8 : b = 8
    · rw [if_pos h8] at h
      obtain ⟨h1, h2, h3⟩ := chars1_len _ _ h
      have hw : wide cs = 1 := by
        unfold wide
        rw [if_neg]
        rw [List.any_eq_true]
        rintro ⟨c, hc, hd⟩
        have := h3 c hc
        simp at hd; omega
      refine ⟨h2, ?_, by omega⟩
      unfold sqz
      split
      · omega
      · rw [hw]; omega
    · rw [if_neg h8] at h
      by_cases h16 : b = 16
      · rw [if_pos h16] at h
        obtain ⟨h1, h2⟩ := chars2_len _ _ h
        have hw := wide_le cs
        refine ⟨h2, ?_, by omega⟩
        unfold sqz
        split
        · omega
        · have : cs.length * wide cs ≤ cs.length * 2 := Nat.mul_le_mul (Nat.le_refl _) hw.2
          omega
      · rw [if_neg h16] at h; cases h
end Go.Proofs.YtmgbbnnjbgemdaaGreatDoor

/- Law 45, directories: a struct into its block and out of it, as one step of a walk. -/
namespace Go.Proofs.YtmgbbnnjbgemdaaGreatDoor
open Go.RowKit
theorem wpList_store_row {P : Program} {w : World} {ops : Array Oper} {rest : List Oper} {o : Oper} {a : Act} {Q : Exit → Act → World → Prop} (hgd : o.guard = none) (p x : Operand) (ty : TypeId) (ho : o.op = .store ty p x)
    (g : Nat) (t : TypeId) (old vs : Array Value) (hp : a.eval p = .pointer (some ⟨g, 0, none⟩)) (hx : a.eval x = .agg vs) (hg : w.heap[g]? = some (.cells old t (0, 0))) (n : Nat) (hi : (P.info? ty).map (·.size) = some n)
    (hs : old.size = n) (hv : vs.size = n) (h1 : vs.all (·.oneCell') = true) (h : wpList P ops Q rest (a.put o.dst undef) (w.setRow g vs)) : wpList P ops Q (o :: rest) a w :=
  wpList_plain hgd fun K hK => by
    have hr := run_storeVar_row (P := P) w g t ty old vs hg (by rw [hv]; exact hi) (by rw [hv]; exact hs) h1
    unfold Oper.wp execOp
    simp only [ho, Instr.storeAt, Instr.sureAddr, Sem.run_bind, Sem.run_pure, Result.andThen_ok, hp, hx, hr]
    exact hK _ _ h
theorem wpList_load_row {P : Program} {w : World} {ops : Array Oper} {rest : List Oper} {o : Oper} {a : Act} {Q : Exit → Act → World → Prop} (hgd : o.guard = none) (p : Operand) (ty : TypeId) (ho : o.op = .load ty p)
    (g : Nat) (t : TypeId) (vs : Array Value) (d : TypeDesc) (hp : a.eval p = .pointer (some ⟨g, 0, none⟩)) (hg : w.heap[g]? = some (.cells vs t (0, 0))) (hu : P.underlying ty = some d)
    (hd : (match d with | .struct _ | .array _ _ => true | _ => false) = true) (n : Nat) (hi : (P.info? ty).map (·.size) = some n) (hv : vs.size = n) (h : wpList P ops Q rest (a.put o.dst (.agg vs)) w) : wpList P ops Q (o :: rest) a w :=
  wpList_plain hgd fun K hK => by
    have hr := run_loadVar_row (P := P) w g t ty vs (0, 0) d hg hu hd (by rw [hv]; exact hi)
    unfold Oper.wp execOp
    simp only [ho, Instr.loadAt, Instr.sureAddr, Sem.run_bind, Sem.run_pure, Result.andThen_ok, hp, hr]
    exact hK _ _ h
theorem results_cell3 {P : Program} {fn : Func} {t u v : Tmp} {ty : TypeId} (h : fn.results = #[.cell t ty, .tmp u, .tmp v]) (tmps : Array Value) (w : World) (a : Addr) (x : Value) (hp : tmps.getD t undef = .pointer (some a)) (hL : (loadVar ty a).run P w = .ok x w) :
    (results fn tmps).run P w = .ok (.tuple #[x, tmps.getD u undef, tmps.getD v undef]) w := by
  have hp' : tmps[t]?.getD undef = .pointer (some a) := by rw [← hp]; simp
  simp [results, h, hp', asAddr, hL]
theorem run_storeCells_row {P : Program} (w : World) (g : Nat) (t : TypeId) (old vs : Array Value) (hg : w.heap[g]? = some (.cells old t (0, 0))) (hs : old.size = vs.size) (h1 : vs.all (·.oneCell') = true) :
    (storeCells ⟨g, 0, none⟩ vs.toList 0).run P w = .ok () (w.setRow g vs) := by
  have := run_storeCells_from (P := P) g t vs.toList 0 old w hg (by simp; omega) (fun v hv => (Array.all_eq_true_iff_forall_mem.1 h1) v (by simpa using hv))
  simpa using this
theorem heap_setRow_other {w : World} {g k : Nat} {cs : Array Value} {o : Obj} (h : w.heap[k]? = some o) (hne : k ≠ g) : (w.setRow g cs).heap[k]? = some o := by rw [setRow_other w g k cs hne, h]
end Go.Proofs.YtmgbbnnjbgemdaaGreatDoor

/- Law 45, directories: the reference's decoding of an entry (2). -/
namespace Go.Proofs.YtmgbbnnjbgemdaaGreatDoor
open Go.RowKit
set_option maxRecDepth 1000000
set_option maxHeartbeats 800000
abbrev fidZ : Array Value := #[.string ⟨#[]⟩, .bool false, .bool false, .bool false, .bool false, .bool false, .int .i64 0, .int .i64 0, .int .i64 0]
/-- The cells of an entry. -/
abbrev fidA (t : ByteArray) (hid dir del par met : Bool) (b p u : Int) : Array Value := #[.string t, .bool hid, .bool dir, .bool del, .bool par, .bool met, .int .i64 b, .int .i64 p, .int .i64 u]
theorem fidA_one (t : ByteArray) (hid dir del par met : Bool) (b p u : Int) : (fidA t hid dir del par met b p u).all (·.oneCell') = true := by
  rw [fidA, List.all_toArray]
  rfl
theorem fid_size : (Tryz.prog.info? 54).map (·.size) = some 9 := by kernel_rfl
/-- The result's block, and what lies below it. -/
def RBlk (w wx : World) : Prop := (∃ vs : Array Value, wx.heap[w.heap.size]? = some (.cells vs 54 (0, 0)) ∧ vs.size = 9) ∧ Below w.heap.size w wx
theorem RBlk.step {w wx w' : World} (h : RBlk w wx) (hb : Below wx.heap.size wx w') : RBlk w w' := by
  obtain ⟨⟨vs, h1, h2⟩, h3⟩ := h
  exact ⟨⟨vs, (hb.block _ (Array.getElem?_eq_some_iff.1 h1).1).trans h1, h2⟩, h3.trans (hb.mono h3.size)⟩
theorem RBlk.new (w : World) : RBlk w (w.alloc (.cells fidZ 54)) := ⟨⟨_, heap_alloc_last w _, rfl⟩, (Below.refl _ _).alloc (Nat.le_refl _) _⟩
theorem RBlk.set {w wx : World} (h : RBlk w wx) (vs : Array Value) (hs : vs.size = 9) : RBlk w (wx.setRow w.heap.size vs) ∧ (wx.setRow w.heap.size vs).heap[w.heap.size]? = some (.cells vs 54 (0, 0)) := by
  obtain ⟨⟨o, h1, h2⟩, h3⟩ := h
  have h4 := setRow_heap wx w.heap.size o vs _ _ h1
  exact ⟨⟨⟨vs, h4, hs⟩, below_setRow h3 (Nat.le_refl _) vs⟩, h4⟩
theorem run_fid {w : World} {g : Nat} {vs : Array Value} (h : w.heap[g]? = some (.cells vs 54 (0, 0))) (hs : vs.size = 9) : Sem.run Tryz.prog (loadVar 54 ⟨g, 0, none⟩) w = .ok (.agg vs) w :=
  run_loadVar_row w g _ _ vs (0, 0) _ h Tryz.underlying54 rfl (by rw [hs]; exact fid_size)
theorem r_decode (s : ByteArray) (loc : Int) (w : World) (hz : s.size ≤ 65536) :
    Calls Tryz.prog 16 #[.string s, .int .i64 loc] w fun e w' => ∃ (v : Value) (n er : Int), e = .returned (.tuple #[v, .int .i64 n, .int .i64 er]) ∧ DOutS (fidAt s.data.toList loc) v n er ∧ Below w.heap.size w w' := by
  have HI := Lib.hid (fun W : World => r_is s 257 loc W hz)
  have HN := Lib.hid (RBlk.new w)
  unfold fidZ at HN
  cases hok : tagOK s.data.toList 257 loc with
  | false =>
    have HF := Lib.hid (show fidAt s.data.toList loc = none by unfold fidAt; rw [hok]; rfl)
    rw [hok] at HI
    clear hok
    go_enter Tryz.func16, Tryz.ntmps16
    go_wp2_with fail
    refine (HI.out _).mono ?_
    rintro e w1 ⟨rfl, hb1⟩
    have h1 := HN.out.step hb1
    obtain ⟨vs, hg, hvs⟩ := h1.1
    go_wp2_with (first
      | (refine wpList_store_row rfl _ _ _ rfl w.heap.size _ vs (fidA ⟨#[]⟩ false false false false false 0 0 0) rfl rfl hg 9 fid_size hvs rfl (fidA_one _ _ _ _ _ _ _ _ _) ?_)
      | go_in)
    have hL := run_fid (h1.set (fidA ⟨#[]⟩ false false false false false 0 0 0) rfl).2 rfl
    go_wp2
    exact bodyPost_ret (results_cell3 Tryz.results16 _ _ _ _ rfl hL) rfl ⟨_, _, _, rfl, ⟨⟨_, rfl, rfl, fidA_one _ _ _ _ _ _ _ _ _⟩, by rw [HF.out]; show (10 : Int) ≠ 0; decide⟩, (h1.set (fidA ⟨#[]⟩ false false false false false 0 0 0) rfl).1.2⟩
  | true =>
    rw [hok] at HI
    by_cases h38 : 38 ≤ s.size
    · have hi19 : (19 : Int) < s.size := by omega
      have hi18 : (18 : Int) < s.size := by omega
      have hj19 : 19 < s.size := by omega
      have hj18 : 18 < s.size := by omega
      have hU := num_lt s.data.toList 36 2
      have hnb := nb_lt s.data.toList 19
      have hG19 := nb_get s 19 hj19
      have hG18 := nb_get s 18 hj18
      have hc := nb_lt s.data.toList 18
      have HN2 := Lib.hid (fun (i : Nat) (hi : i + 2 ≤ s.size) (W : World) => r_num s i 2 W (by omega) hi hz)
      have HN4 := Lib.hid (fun (i : Nat) (hi : i + 4 ≤ s.size) (W : World) => r_num s i 4 W (by omega) hi hz)
      have HFid := Lib.hid (show fidAt s.data.toList loc = if rounded (38 + num s.data.toList 36 2 + nb s.data.toList 19) ≤ s.size then (match chars ((s.data.toList.drop (38 + num s.data.toList 36 2)).take (nb s.data.toList 19)) with | none => none | some cs => if (FidS.entry ⟨cs, num s.data.toList 24 4, num s.data.toList 28 2, num s.data.toList 32 4, nb s.data.toList 18⟩) then some (⟨cs, num s.data.toList 24 4, num s.data.toList 28 2, num s.data.toList 32 4, nb s.data.toList 18⟩, rounded (38 + num s.data.toList 36 2 + nb s.data.toList 19)) else none) else none by
        unfold fidAt; rw [hok, len_data, decide_eq_true h38]; rfl)
      have h24 := num_lt s.data.toList 24 4
      have h28 := num_lt s.data.toList 28 2
      have h32 := num_lt s.data.toList 32 4
      have HN36 := Lib.hid (HN2.out 36 (by omega))
      have HN24 := Lib.hid (HN4.out 24 (by omega))
      have HN28 := Lib.hid (HN2.out 28 (by omega))
      have HN32 := Lib.hid (HN4.out 32 (by omega))
      clear HN2 HN4 hok
      generalize num s.data.toList 24 4 = b at *
      generalize num s.data.toList 28 2 = p at *
      generalize num s.data.toList 32 4 = u at *
      generalize num s.data.toList 36 2 = use at *
      generalize nb s.data.toList 19 = n at *
      generalize nb s.data.toList 18 = c at *
      have HR := Lib.hid (fun W : World => r_round (38 + use + n) W (by omega))
      have hrd : rounded (38 + use + n) < 100000 := by unfold rounded; omega
      have hrd2 : 38 + use + n ≤ rounded (38 + use + n) := by unfold rounded; omega
      have e1 : ((38 + use + n : Nat) : Int) = 38 + (use : Int) + (n : Int) := by omega
      rw [e1] at HR
      clear e1
      generalize rounded (38 + use + n) = rd at *
      go_enter Tryz.func16, Tryz.ntmps16
      go_wp2_with fail
      refine (HI.out _).mono ?_
      rintro e w1 ⟨rfl, hb1⟩
      have h1 := HN.out.step hb1
      clear HI HN hb1
      go_wp2_with fail
      go_quiet ((go_at_call 49; exact Calls.quiet_of_same (HN36.out _)))
      go_wp2_with fail
      refine (HR.out _).mono ?_
      rintro e w2 ⟨rfl, rfl⟩
      have h1' : RBlk w (w1.drewN nq) := h1.step (below_drewN (Below.refl _ _) nq)
      clear h1 HR
      by_cases hle : rd ≤ s.size
      · have hle' : ¬ (s.size : Int) < (rd : Int) := by omega
        have hx1 : (38 : Int) + use + n ≤ s.size := by omega
        have hx2 : (0 : Int) ≤ 38 + (use : Int) := by omega
        have hx3 : (38 : Int) + use ≤ 38 + use + n := by omega
        have hx4 : ((38 : Int) + use).toNat = 38 + use := by omega
        have hx5 : ((38 : Int) + use + n).toNat = 38 + use + n := by omega
        have hcd : (s.extract (38 + use) (38 + use + n)).data.toList = (s.data.toList.drop (38 + use)).take n := by rw [cut_data]; congr 1; omega
        have hcz : (s.extract (38 + use) (38 + use + n)).size = n := by rw [← len_data, hcd]; simp; omega
        have HX := Lib.hid (fun W : World => r_expand (s.extract (38 + use) (38 + use + n)) W (by rw [hcz]; omega))
        rw [hcd] at HX
        rw [if_pos hle] at HFid
        clear hcd hcz
        cases hch : chars ((s.data.toList.drop (38 + use)).take n) with
        | none =>
          rw [hch] at HX HFid
          clear hch
          have HF : Hid (fidAt s.data.toList loc = none) := HFid
          go_wp2_with fail
          refine (HX.out _).mono ?_
          rintro e w3 ⟨t, er, rfl, hx, hb3⟩
          have h3 := h1'.step hb3
          have hx' : er ≠ 0 := hx
          have hne : ((er : Int) != 0) = true := by rw [bne_iff_ne]; exact hx'
          clear hx hx' HX
          go_wp2_with fail
          refine (HN24.out _).mono ?_
          rintro e w4 ⟨rfl, rfl⟩
          go_wp2_with fail
          refine (HN28.out _).mono ?_
          rintro e w4 ⟨rfl, rfl⟩
          go_wp2_with fail
          refine (HN32.out _).mono ?_
          rintro e w4 ⟨rfl, rfl⟩
          have h1 := h3.step ((Below.refl w3.heap.size w3).alloc (Nat.le_refl _) (.cells #[.string t, .bool ((c : Int) % 2 == 1), .bool ((c : Int) / 2 % 2 == 1), .bool ((c : Int) / 4 % 2 == 1), .bool ((c : Int) / 8 % 2 == 1), .bool ((c : Int) / 16 % 2 == 1), .int .i64 b, .int .i64 p, .int .i64 u] 54))
          obtain ⟨vs, hg, hvs⟩ := h1.1
          go_wp2_with (first
            | (refine wpList_store_row rfl _ _ _ rfl w.heap.size _ vs (fidA ⟨#[]⟩ false false false false false 0 0 0) rfl rfl hg 9 fid_size hvs rfl (fidA_one _ _ _ _ _ _ _ _ _) ?_)
            | go_in)
          have hL := run_fid (h1.set (fidA ⟨#[]⟩ false false false false false 0 0 0) rfl).2 rfl
          go_wp2
          exact bodyPost_ret (results_cell3 Tryz.results16 _ _ _ _ rfl hL) rfl ⟨_, _, _, rfl, ⟨⟨_, rfl, rfl, fidA_one _ _ _ _ _ _ _ _ _⟩, by rw [HF.out]; show (10 : Int) ≠ 0; decide⟩, (h1.set (fidA ⟨#[]⟩ false false false false false 0 0 0) rfl).1.2⟩
        | some cs =>
          rw [hch] at HX HFid
          obtain ⟨hcc, hsq, hcl⟩ := chars_len hch (by rw [List.length_take]; omega)
          have HCC := Lib.hid hcc
          clear hch hcc
          obtain ⟨f, hf⟩ : ∃ f : FidS, f = ⟨cs, b, p, u, c⟩ := ⟨_, rfl⟩
          have HF1 : Hid (fidAt s.data.toList loc = if f.entry then some (f, rd) else none) := by rw [hf]; exact HFid
          have q1 : ((c : Int) % 2 == 1) = f.hidden := by rw [hf, FidS.hidden, Bool.eq_iff_iff]; simp; omega
          have q2 : ((c : Int) / 2 % 2 == 1) = f.directory := by rw [hf, FidS.directory, Bool.eq_iff_iff]; simp; omega
          have q3 : ((c : Int) / 4 % 2 == 1) = f.deleted := by rw [hf, FidS.deleted, Bool.eq_iff_iff]; simp; omega
          have q4 : ((c : Int) / 8 % 2 == 1) = f.parent := by rw [hf, FidS.parent, Bool.eq_iff_iff]; simp; omega
          have q5 : ((c : Int) / 16 % 2 == 1) = f.metadata := by rw [hf, FidS.metadata, Bool.eq_iff_iff]; simp; omega
          have HFE := Lib.hid (show f.entry = entryOK cs f.directory f.parent by rw [hf]; rfl)
          have HFV := Lib.hid (show f.cs = cs ∧ f.block = b ∧ f.part = p ∧ f.unique = u by rw [hf]; exact ⟨rfl, rfl, rfl, rfl⟩)
          clear HFid hf
          go_wp2_with fail
          refine (HX.out _).mono ?_
          rintro e w3 ⟨t, er, rfl, hx, hb3⟩
          have h3 := h1'.step hb3
          obtain ⟨ht, rfl⟩ : t.data.toList = encs cs ∧ er = 0 := hx
          have htz : t.size ≤ 65536 := by rw [← len_data, ht]; have := (encs_len cs).2; omega
          have HE := Lib.hid (fun W : World => r_entry t cs f.hidden f.directory f.deleted f.parent f.metadata b p u W ht HCC.out htz hsq (by omega) (by omega) (by omega))
          unfold fidV at HE
          have HT := Lib.hid ht
          have hA := Lib.hid (fun o => h3.step ((Below.refl w3.heap.size w3).alloc (Nat.le_refl _) o))
          clear ht htz HX h3 hb3 h1'
          go_wp2_with fail
          refine (HN24.out _).mono ?_
          rintro e w4 ⟨rfl, rfl⟩
          go_wp2_with fail
          refine (HN28.out _).mono ?_
          rintro e w4 ⟨rfl, rfl⟩
          go_wp2_with fail
          refine (HN32.out _).mono ?_
          rintro e w4 ⟨rfl, rfl⟩
          generalize hd1 : f.hidden = d1 at *
          generalize hd2 : f.directory = d2 at *
          generalize hd3 : f.deleted = d3 at *
          generalize hd4 : f.parent = d4 at *
          generalize hd5 : f.metadata = d5 at *
          have HD := Lib.hid (And.intro hd1 (And.intro hd2 (And.intro hd3 (And.intro hd4 hd5))))
          clear hd1 hd2 hd3 hd4 hd5
          go_wp2_with fail
          refine (HE.out _).mono ?_
          rintro e w5 ⟨rfl, hb5⟩
          have h1 := (hA.out (.cells #[.string t, .bool d1, .bool d2, .bool d3, .bool d4, .bool d5, .int .i64 b, .int .i64 p, .int .i64 u] 54)).step hb5
          have hblk : w5.heap[w3.heap.size]? = some (.cells (fidA t d1 d2 d3 d4 d5 b p u) 54 (0, 0)) := (hb5.block _ (by show w3.heap.size < (w3.heap.push _).size; simp)).trans (heap_alloc_last w3 _)
          obtain ⟨vs, hg, hvs⟩ := h1.1
          clear hb5
          cases hent : entryOK cs d2 d4 with
          | false =>
            have HF : Hid (fidAt s.data.toList loc = none) := by show _ = _; rw [HF1.out, HFE.out, hent]; rfl
            go_wp2_with (first
              | (refine wpList_store_row rfl _ _ _ rfl w.heap.size _ vs (fidA ⟨#[]⟩ false false false false false 0 0 0) rfl rfl hg 9 fid_size hvs rfl (fidA_one _ _ _ _ _ _ _ _ _) ?_)
              | go_in)
            have hL := run_fid (h1.set (fidA ⟨#[]⟩ false false false false false 0 0 0) rfl).2 rfl
            go_wp2
            exact bodyPost_ret (results_cell3 Tryz.results16 _ _ _ _ rfl hL) rfl ⟨_, _, _, rfl, ⟨⟨_, rfl, rfl, fidA_one _ _ _ _ _ _ _ _ _⟩, by rw [HF.out]; show (10 : Int) ≠ 0; decide⟩, (h1.set (fidA ⟨#[]⟩ false false false false false 0 0 0) rfl).1.2⟩
          | true =>
            have HF : Hid (fidAt s.data.toList loc = some (f, rd)) := by show _ = _; rw [HF1.out, HFE.out, hent]; rfl
            go_wp2_with (first
              | (refine wpList_load_row rfl _ _ rfl w3.heap.size _ (fidA t d1 d2 d3 d4 d5 b p u) _ rfl hblk Tryz.underlying54 rfl 9 fid_size rfl ?_)
              | (refine wpList_store_row rfl _ _ _ rfl w.heap.size _ vs (fidA t d1 d2 d3 d4 d5 b p u) rfl rfl hg 9 fid_size hvs rfl (fidA_one _ _ _ _ _ _ _ _ _) ?_)
              | go_in)
            have hL := run_fid (h1.set (fidA t d1 d2 d3 d4 d5 b p u) rfl).2 rfl
            go_wp2
            refine bodyPost_ret (results_cell3 Tryz.results16 _ _ _ _ rfl hL) rfl ⟨_, _, _, rfl, ?_, (h1.set (fidA t d1 d2 d3 d4 d5 b p u) rfl).1.2⟩
            rw [HF.out]
            obtain ⟨e1, e2, e3, e4⟩ := HFV.out
            obtain ⟨k1, k2, k3, k4, k5⟩ := HD.out
            exact ⟨⟨_, rfl, rfl, fidA_one _ _ _ _ _ _ _ _ _⟩, ⟨t, by rw [k1, k2, k3, k4, k5, e2, e3, e4]; rfl, by rw [HT.out, FidS.name, e1]⟩, rfl, rfl⟩
      · have hle' : (s.size : Int) < (rd : Int) := by omega
        rw [if_neg hle] at HFid
        have HF := HFid
        obtain ⟨vs, hg, hvs⟩ := h1'.1
        have h1 := h1'
        clear hle
        go_wp2_with (first
          | (refine wpList_store_row rfl _ _ _ rfl w.heap.size _ vs (fidA ⟨#[]⟩ false false false false false 0 0 0) rfl rfl hg 9 fid_size hvs rfl (fidA_one _ _ _ _ _ _ _ _ _) ?_)
          | go_in)
        have hL := run_fid (h1.set (fidA ⟨#[]⟩ false false false false false 0 0 0) rfl).2 rfl
        go_wp2
        exact bodyPost_ret (results_cell3 Tryz.results16 _ _ _ _ rfl hL) rfl ⟨_, _, _, rfl, ⟨⟨_, rfl, rfl, fidA_one _ _ _ _ _ _ _ _ _⟩, by rw [HF.out]; show (10 : Int) ≠ 0; decide⟩, (h1.set (fidA ⟨#[]⟩ false false false false false 0 0 0) rfl).1.2⟩
    · have HF := Lib.hid (show fidAt s.data.toList loc = none by unfold fidAt; rw [hok, len_data, decide_eq_false h38]; rfl)
      have hlt : (s.size : Int) < 38 := by omega
      clear hok h38
      go_enter Tryz.func16, Tryz.ntmps16
      go_wp2_with fail
      refine (HI.out _).mono ?_
      rintro e w1 ⟨rfl, hb1⟩
      have h1 := HN.out.step hb1
      obtain ⟨vs, hg, hvs⟩ := h1.1
      go_wp2_with (first
        | (refine wpList_store_row rfl _ _ _ rfl w.heap.size _ vs (fidA ⟨#[]⟩ false false false false false 0 0 0) rfl rfl hg 9 fid_size hvs rfl (fidA_one _ _ _ _ _ _ _ _ _) ?_)
        | go_in)
      have hL := run_fid (h1.set (fidA ⟨#[]⟩ false false false false false 0 0 0) rfl).2 rfl
      go_wp2
      exact bodyPost_ret (results_cell3 Tryz.results16 _ _ _ _ rfl hL) rfl ⟨_, _, _, rfl, ⟨⟨_, rfl, rfl, fidA_one _ _ _ _ _ _ _ _ _⟩, by rw [HF.out]; show (10 : Int) ≠ 0; decide⟩, (h1.set (fidA ⟨#[]⟩ false false false false false 0 0 0) rfl).1.2⟩
end Go.Proofs.YtmgbbnnjbgemdaaGreatDoor

/- Law 45, directories: the reference's test of a name. -/
namespace Go.Proofs.YtmgbbnnjbgemdaaGreatDoor
open Go.RowKit
set_option maxRecDepth 1000000
set_option maxHeartbeats 800000
def goodCs (cs : List Nat) : Bool := decide (encs cs ≠ [46]) && (decide (encs cs ≠ [46, 46]) && (!(encs cs).contains 47 && (decide (1 ≤ cs.length) && decide (cs.length ≤ 64))))
theorem goodName_cs (f : FidS) : goodName f = goodCs f.cs := rfl
theorem contains_take (l : List UInt8) (k : Nat) (h : k < l.length) : (l.take (k + 1)).contains 47 = ((l.take k).contains 47 || decide (l[k].toNat = 47)) := by
  rw [List.take_succ_eq_append_getElem h, List.contains_append]
  congr 1
  rw [Bool.eq_iff_iff]
  simp only [List.contains_cons, List.contains_nil, Bool.or_false, beq_iff_eq, decide_eq_true_eq]
  exact ⟨fun e => by rw [← e]; rfl, fun e => UInt8.toNat.inj (by rw [e]; rfl)⟩
theorem r_name18 (s : ByteArray) (cs : List Nat) (w : World) (hs : s.data.toList = encs cs) (hc : ∀ c ∈ cs, isChar c = true) (hz : s.size ≤ 65536) :
    Calls Tryz.prog 17 #[.string s] w fun e w' => e = .returned (.bool (goodCs cs)) ∧ Below w.heap.size w w' := by
  by_cases hd1 : encs cs = [46]
  · have hg : goodCs cs = false := by unfold goodCs; rw [hd1]; rfl
    rw [hg]
    have hd : s.toList = [46] := by rw [ByteArray.toList_eq, hs, hd1]
    go_enter Tryz.func17, Tryz.ntmps17
    go_wp2
    go_ret
    exact ⟨rfl, Below.refl _ _⟩
  · have hb1 : (s.toList == [46]) = false := by rw [ByteArray.toList_eq, hs, beq_eq_false_iff_ne]; exact hd1
    by_cases hd2 : encs cs = [46, 46]
    · have hg : goodCs cs = false := by unfold goodCs; rw [hd2]; rfl
      rw [hg]
      have hd : s.toList = [46, 46] := by rw [ByteArray.toList_eq, hs, hd2]
      go_enter Tryz.func17, Tryz.ntmps17
      go_wp2
      go_ret
      exact ⟨rfl, Below.refl _ _⟩
    · have hb2 : (s.toList == [46, 46]) = false := by rw [ByteArray.toList_eq, hs, beq_eq_false_iff_ne]; exact hd2
      have hl3 := (encs_len cs).2
      rw [← hs, len_data] at hl3
      by_cases hlen : 300 < s.size
      · have hg : goodCs cs = false := by
          unfold goodCs
          rw [decide_eq_false (show ¬ cs.length ≤ 64 by omega)]
          simp
        rw [hg]
        have hlen' : (300 : Int) < s.size := by omega
        clear hlen
        go_enter Tryz.func17, Tryz.ntmps17
        go_wp2
        go_ret
        exact ⟨rfl, Below.refl _ _⟩
      · have hlen' : decide ((300 : Int) < s.size) = false := by simp; omega
        have HG := Lib.hid (show goodCs cs = (!(s.data.toList).contains 47 && (decide (1 ≤ cs.length) && decide (cs.length ≤ 64))) by
          rw [hs]; unfold goodCs; rw [decide_eq_true hd1, decide_eq_true hd2, Bool.true_and, Bool.true_and])
        have HC := Lib.hid (fun W : World => r_chars s cs W hs hc hz)
        clear hd1 hd2 hs hc hl3
        go_enter Tryz.func17, Tryz.ntmps17
        go_wp2
        go_loop [3] (fun i => ∃ k : Nat, k ≤ s.size ∧ i = .int .i64 k ∧ Hid ((s.data.toList.take k).contains 47 = false)) (fun i => s.size - (intOf i).toNat)
        case atStart => exact ⟨0, Nat.zero_le _, rfl, rfl⟩
        case round =>
          obtain ⟨k, hk, rfl, hno⟩ := hrel
          by_cases hlt : k < s.size
          · have hb : s[k].toNat < 256 := UInt8.toNat_lt _
            have HT := Lib.hid (contains_take s.data.toList k (by simpa using hlt))
            have hi : (k : Int) < s.size := by omega
            by_cases h47 : s[k].toNat = 47
            · have HX : Hid (goodCs cs = false) := by
                show _ = _
                rw [HG.out]
                have h1 : s.data.toList.contains 47 = true := by
                  rw [List.contains_iff_mem]
                  have : s[k] = 47 := UInt8.toNat.inj h47
                  rw [← this]
                  exact List.getElem_mem (by simpa using hlt)
                rw [h1]; rfl
              go_wp2
              go_ret
              exact ⟨ret_bool' HX.out.symm, Below.refl _ _⟩
            · have h47' : ((s[k].toNat : Int) == 47) = false := by rw [beq_eq_false_iff_ne]; omega
              have HN : Hid ((s.data.toList.take (k + 1)).contains 47 = false) := by
                show _ = _
                rw [HT.out, hno.out, Bool.false_or]
                exact decide_eq_false h47
              clear h47
              go_wp2
              go_round
              case rel => exact ⟨k + 1, by omega, by go_num, HN⟩
              case measure => simp [intOf]; omega
          · have hk' : k = s.size := by omega
            subst hk'
            have HX : Hid (goodCs cs = (decide (1 ≤ cs.length) && decide (cs.length ≤ 64))) := by
              show _ = _
              have h1 := hno.out
              rw [List.take_of_length_le (by simp)] at h1
              rw [HG.out, h1]; rfl
            clear hno
            go_wp2_with fail
            refine (HC.out _).mono ?_
            rintro e w1 ⟨v, rfl, hown, hb1⟩
            have hE : ∃ (a : Option Addr) (c : Nat), v = .slice a cs.length c := by
              rcases hown.2 with ⟨rfl, h0⟩ | ⟨g, cap, cur, rfl, _⟩
              · exact ⟨none, 0, by rw [h0]⟩
              · exact ⟨_, _, rfl⟩
            obtain ⟨a, c, rfl⟩ := hE
            clear hown
            have e1 : decide ((1 : Int) ≤ cs.length) = decide (1 ≤ cs.length) := by rw [Bool.eq_iff_iff]; simp; omega
            have e2 : decide ((cs.length : Int) ≤ 64) = decide (cs.length ≤ 64) := by rw [Bool.eq_iff_iff]; simp; omega
            by_cases h1 : 1 ≤ cs.length
            · have h1' : (1 : Int) ≤ cs.length := by omega
              go_wp2
              go_ret
              exact ⟨ret_bool' (by rw [HX.out, decide_eq_true h1, Bool.true_and, ← e2]), hb1⟩
            · have h1' : decide ((1 : Int) ≤ cs.length) = false := by simp; omega
              go_wp2
              go_ret
              exact ⟨ret_bool' (by rw [HX.out, decide_eq_false h1, Bool.false_and]), hb1⟩
end Go.Proofs.YtmgbbnnjbgemdaaGreatDoor

/- Law 45, directories: the reference's list of findings, and what it looks up. -/
namespace Go.Proofs.YtmgbbnnjbgemdaaGreatDoor
open Go.RowKit
set_option maxRecDepth 1000000
set_option maxHeartbeats 800000
theorem info_finding : (Tryz.prog.info? 27).map (fun i => (i.zero, i.size, i.bytes)) = some (some (.agg #[.int .i64 0, .int .i64 0, .int .i64 0]), 3, 24) := by kernel_rfl
theorem info_fid : (Tryz.prog.info? 54).map (fun i => (i.zero, i.size, i.bytes)) = some (some (.agg #[.string ⟨#[]⟩, .bool false, .bool false, .bool false, .bool false, .bool false, .int .i64 0, .int .i64 0, .int .i64 0])  , 9, 48) := by kernel_rfl
/-- The findings' cells. -/
def findV (lba : Int) (l : List Nat) : List Value := l.flatMap fun (o : Nat) => [.int .i64 306, .int .i64 lba, .int .i64 (o : Int)]
theorem findV_snoc (lba : Int) (l : List Nat) (o : Nat) : findV lba (l ++ [o]) = findV lba l ++ [.int .i64 306, .int .i64 lba, .int .i64 (o : Int)] := by simp [findV]
theorem own_ne2 {w : World} {base base' : Nat} {e e' : TypeId} {size size' : Nat} {v v' : Value} {n n' : Nat} {xs xs' : List Value} (h : w.ownsRow base e size v n xs) (h' : w.ownsRow base' e' size' v' n' xs') (hne : e ≠ e') : v.ownBlock = none ∨ v.ownBlock ≠ v'.ownBlock := by
  rcases h.2 with ⟨rfl, _⟩ | ⟨g, cap, cur, rfl, _, hh, _⟩
  · exact .inl rfl
  · refine .inr fun he => ?_
    rcases h'.2 with ⟨rfl, _⟩ | ⟨g', cap', cur', rfl, _, hh', _⟩
    · simp [Value.ownBlock] at he
    · have e1 : g = g' := by simpa [Value.ownBlock] using he
      subst e1
      rw [hh] at hh'
      injection hh' with hh'
      injection hh' with _ h2
      exact hne h2
theorem r_add (B : Nat) (v : Value) (l : List Nat) (lba : Int) (o : Nat) (w : World) (hown : w.ownsRow B 27 3 v l.length (findV lba l)) (hl : l.length ≤ 65536) (hB : B ≤ w.heap.size) :
    Calls Tryz.prog 15 #[v, .int .i64 306, .int .i64 lba, .int .i64 o] w fun e w' => ∃ v', e = .returned v' ∧ w'.ownsRow B 27 3 v' (l ++ [o]).length (findV lba (l ++ [o])) ∧ (∃ ob, (w.alloc ob).grownBy w' v.ownBlock) ∧ Below B w w' := by
  obtain ⟨i0, hi, hz0, hz1, hz2⟩ := info_parts info_finding
  have hbw : Below B w w := Below.refl _ _
  go_enter Tryz.func15, Tryz.ntmps15
  go_wp2_with (first
    | (at_builtin; refine wpList_append_own _ rfl _ _ 25 rfl B 27 i0 (.agg #[.int .i64 0, .int .i64 0, .int .i64 0]) 3 24 Tryz.underlying25 hi hz0 hz1 hz2 rfl (by decide) _ _ _ rfl (hown.alloc _) ⟨w.heap.size, 0, none⟩ 1 1 [.int .i64 306, .int .i64 lba, .int .i64 (o : Int)] rfl rfl ?_ ?_ ?_ ?_ ?_ ?_)
    | go_in)
  · first | exact new_cells _ _ _ | exact fun _ _ h => h
  · intro u hu; simp at hu; rcases hu with rfl | rfl | rfl <;> rfl
  · unfold maxLen; omega
  · omega
  · have := hB; first | exact ((hbw.alloc hB _).size) | (simp; omega) | omega
  · intro v' w2 hown' hgrow _
    have hb2 := (hbw.alloc hB _).grown hgrow (by show B ≤ (w.heap.push _).size; simp; omega) (fun j hj => (hown.lt j hj).1)
    go_wp2
    go_ret
    exact ⟨_, rfl, by rw [findV_snoc, List.length_append]; exact hown', ⟨_, hgrow⟩, hb2⟩
/-- The cells of entries. -/
def fidL (x : ByteArray × FidS) : List Value := [.string x.1, .bool x.2.hidden, .bool x.2.directory, .bool x.2.deleted, .bool x.2.parent, .bool x.2.metadata, .int .i64 x.2.block, .int .i64 x.2.part, .int .i64 x.2.unique]
def fidsV (l : List (ByteArray × FidS)) : List Value := l.flatMap fidL
theorem fidsV_snoc (l : List (ByteArray × FidS)) (x : ByteArray × FidS) : fidsV (l ++ [x]) = fidsV l ++ fidL x := by simp [fidsV]
theorem fidsV_get : ∀ (l : List (ByteArray × FidS)) (i k : Nat) (hi : i < l.length) (_ : k < 9), (fidsV l)[i * 9 + k]? = (fidL l[i])[k]?
  | x :: l, 0, k, _, hk => by
    rw [fidsV, List.flatMap_cons, Nat.zero_mul, Nat.zero_add, List.getElem?_append_left (by show k < 9; exact hk)]; rfl
  | x :: l, i + 1, k, hi, hk => by
    have := fidsV_get l i k (by simpa using hi) hk
    rw [fidsV, List.flatMap_cons, List.getElem?_append_right (by show 9 ≤ _; omega)]
    rw [show (i + 1) * 9 + k - (fidL x).length = i * 9 + k by show (i + 1) * 9 + k - 9 = _; omega]
    exact this
/-- What is looked up. -/
def hit (x : ByteArray × FidS) (name : ByteArray) : Bool := (!x.2.deleted && !x.2.parent) && (x.1.toList == name.toList)
theorem r_lookup (B : Nat) (v : Value) (l : List (ByteArray × FidS)) (name : ByteArray) (w : World) (hown : w.ownsRow B 54 9 v l.length (fidsV l)) (hl : l.length ≤ 65536) :
    Calls Tryz.prog 18 #[v, .string name] w fun e w' => ∃ r : Int, e = .returned (.int .i64 r) ∧ decide (0 ≤ r) = l.any (fun x => hit x name) ∧ w' = w := by
  rcases hown.2 with ⟨rfl, h0⟩ | ⟨g, cap, cur, rfl, _⟩
  · have hl0 : l = [] := List.length_eq_zero_iff.1 h0
    subst hl0
    go_enter Tryz.func18, Tryz.ntmps18
    go_wp2
    refine wp_loop_rounds 1 ?_
    rw [rounds_succ]
    go_wp2
    go_ret
    exact ⟨_, rfl, rfl, rfl⟩
  · have HC := Lib.hid (fun (i k : Nat) (hi : i < l.length) (hk : k < 9) => (hown.cellAt (i * 9 + k) (by omega)).trans (fidsV_get l i k hi hk))
    clear hown
    go_enter Tryz.func18, Tryz.ntmps18
    go_wp2
    go_loop [5] (fun i => ∃ k : Nat, k ≤ l.length ∧ i = .int .i64 k ∧ Hid ((l.take k).any (fun x => hit x name) = false)) (fun i => l.length - (intOf i).toNat)
    case atStart => exact ⟨0, Nat.zero_le _, rfl, rfl⟩
    case round =>
      obtain ⟨k, hk, rfl, hno⟩ := hrel
      by_cases hlt : k < l.length
      · have c0 := HC.out k 0 hlt (by omega)
        have c3 := HC.out k 3 hlt (by omega)
        have c4 := HC.out k 4 hlt (by omega)
        have HT := Lib.hid (show (l.take (k + 1)).any (fun x => hit x name) = ((l.take k).any (fun x => hit x name) || hit l[k] name) by rw [List.take_succ_eq_append_getElem hlt, List.any_append]; simp)
        have HA := Lib.hid (show hit l[k] name = true → l.any (fun x => hit x name) = true from fun h => List.any_eq_true.2 ⟨l[k], List.getElem_mem hlt, h⟩)
        generalize l[k] = x at *
        obtain ⟨t, f⟩ := x
        simp only [fidL, List.getElem?_cons_zero, List.getElem?_cons_succ, Nat.add_zero] at c0 c3 c4
        have hi : (k : Int) < l.length := by omega
        generalize hh : hit (t, f) name = h at *
        unfold hit at hh
        dsimp only at hh
        generalize f.deleted = d at *
        generalize f.parent = p at *
        have HN : h = false → Hid ((l.take (k + 1)).any (fun x => hit x name) = false) := fun e => by
          show _ = _
          rw [HT.out, hno.out, e]; rfl
        clear HT
        cases d
        · cases p
          · cases hq : (t.toList == name.toList)
            · have HN := HN (by rw [← hh, hq]; rfl)
              clear hh
              go_wp2
              go_round
              case rel => exact ⟨k + 1, by omega, by go_num, HN⟩
              case measure => simp [intOf]; omega
            · have HX := Lib.hid (HA.out (by rw [← hh, hq]; rfl))
              clear hh HN
              go_wp2
              go_ret
              exact ⟨_, rfl, by rw [HX.out]; simp, rfl⟩
          · have HN := HN (by rw [← hh]; rfl)
            clear hh
            go_wp2
            go_round
            case rel => exact ⟨k + 1, by omega, by go_num, HN⟩
            case measure => simp [intOf]; omega
        · have HN := HN (by rw [← hh]; rfl)
          clear hh
          go_wp2
          go_round
          case rel => exact ⟨k + 1, by omega, by go_num, HN⟩
          case measure => simp [intOf]; omega
      · have hk' : k = l.length := by omega
        subst hk'
        have HX : Hid (l.any (fun x => hit x name) = false) := by
          show _ = _
          have := hno.out
          rw [List.take_length] at this
          exact this
        clear hno
        go_wp2
        go_ret
        exact ⟨_, rfl, by rw [HX.out]; decide, rfl⟩
end Go.Proofs.YtmgbbnnjbgemdaaGreatDoor

/- Law 45, directories: the findings' offsets: plain laws. -/
namespace Go.Proofs.YtmgbbnnjbgemdaaGreatDoor
theorem rounded_ge (n : Nat) : n ≤ rounded n := by unfold rounded; omega
theorem fidAt_size {l : List UInt8} {loc : Int} {f : FidS} {n : Nat} (h : fidAt l loc = some (f, n)) : 40 ≤ n ∧ n ≤ l.length := by
  unfold fidAt at h
  split at h
  · dsimp only at h
    split at h
    · rename_i hle
      split at h
      · cases h
      · split at h
        · injection h with h
          injection h with _ h2
          subst h2
          refine ⟨?_, hle⟩
          unfold rounded; omega
        · cases h
    · cases h
  · cases h
theorem offs_zero (d : List UInt8) (bl : List Int) (at_ : Nat) (seen : List (List UInt8)) (k : Nat) (h : d.length ≤ at_) : offs d bl k at_ seen = [] := by
  cases k with
  | zero => rfl
  | succ k => rw [offs, if_neg (by omega)]
theorem offs_stable (d : List UInt8) (bl : List Int) : ∀ (k k' at_ : Nat) (seen : List (List UInt8)), d.length - at_ ≤ k → d.length - at_ ≤ k' → offs d bl k at_ seen = offs d bl k' at_ seen
  | 0, k', at_, seen, h, h' => by rw [offs_zero _ _ _ _ _ (by omega), offs_zero _ _ _ _ _ (by omega)]
  | k + 1, 0, at_, seen, h, h' => by rw [offs_zero _ _ _ _ _ (by omega), offs_zero _ _ _ _ _ (by omega)]
  | k + 1, k' + 1, at_, seen, h, h' => by
    by_cases hlt : at_ < d.length
    · rw [offs, offs, if_pos hlt, if_pos hlt]
      cases bl[at_ / 2048]? with
      | none => rfl
      | some b =>
        cases hf : fidAt (d.drop at_) b with
        | none => simp only [hf]
        | some p =>
          obtain ⟨f, n⟩ := p
          have := (fidAt_size hf).1
          simp only [hf]
          rw [offs_stable d bl k k' (at_ + n) _ (by omega) (by omega)]
    · rw [offs_zero _ _ _ _ _ (by omega), offs_zero _ _ _ _ _ (by omega)]
def offsAll (d : List UInt8) (bl : List Int) (at_ : Nat) (seen : List (List UInt8)) : List Nat := offs d bl (d.length - at_) at_ seen
theorem offsAll_end {d : List UInt8} {bl : List Int} {at_ : Nat} {seen : List (List UInt8)} (h : d.length ≤ at_) : offsAll d bl at_ seen = [] := offs_zero _ _ _ _ _ h
theorem offsAll_succ {d : List UInt8} {at_ : Nat} (h : at_ < d.length) : d.length - at_ = (d.length - at_ - 1) + 1 := by omega
theorem offsAll_noblock {d : List UInt8} {bl : List Int} {at_ : Nat} {seen : List (List UInt8)} (h : at_ < d.length) (hb : bl[at_ / 2048]? = none) : offsAll d bl at_ seen = [at_] := by
  unfold offsAll; rw [offsAll_succ h, offs, if_pos h, hb]
theorem offsAll_bad {d : List UInt8} {bl : List Int} {at_ : Nat} {seen : List (List UInt8)} {b : Int} (h : at_ < d.length) (hb : bl[at_ / 2048]? = some b) (hf : fidAt (d.drop at_) b = none) : offsAll d bl at_ seen = [at_] := by
  unfold offsAll; rw [offsAll_succ h, offs, if_pos h, hb]; simp only [hf]
theorem offsAll_fid {d : List UInt8} {bl : List Int} {at_ : Nat} {seen : List (List UInt8)} {b : Int} {f : FidS} {n : Nat} (h : at_ < d.length) (hb : bl[at_ / 2048]? = some b) (hf : fidAt (d.drop at_) b = some (f, n)) :
    offsAll d bl at_ seen = (if wrong f at_ seen then [at_] else []) ++ offsAll d bl (at_ + n) (if !f.deleted && !f.parent then f.name :: seen else seen) := by
  have h40 := (fidAt_size hf).1
  unfold offsAll; rw [offsAll_succ h, offs, if_pos h, hb]; simp only [hf]
  rw [offs_stable d bl (d.length - at_ - 1) (d.length - (at_ + n)) (at_ + n) _ (by omega) (by omega)]
/-- The findings of a directory. -/
def found (d : List UInt8) (bl : List Int) : List Nat := if d.isEmpty then [0] else offsAll d bl 0 []
end Go.Proofs.YtmgbbnnjbgemdaaGreatDoor

/- Law 45, directories: the reference's CheckDirectory. -/
namespace Go.Proofs.YtmgbbnnjbgemdaaGreatDoor
open Go.RowKit
set_option maxRecDepth 1000000
set_option maxHeartbeats 1600000
/-- The lists of findings and of entries. -/
structure DSt (w0 : World) (lba : Int) (acc : List Nat) (l : List (ByteArray × FidS)) (out sn : Value) (wx : World) : Prop where
  own1 : wx.ownsRow w0.heap.size 27 3 out acc.length (findV lba acc)
  own2 : wx.ownsRow w0.heap.size 54 9 sn l.length (fidsV l)
  bel : Below w0.heap.size w0 wx
theorem DSt.step {w0 wx w' : World} {lba : Int} {acc : List Nat} {l : List (ByteArray × FidS)} {out sn : Value} (h : DSt w0 lba acc l out sn wx) (hb : Below wx.heap.size wx w') : DSt w0 lba acc l out sn w' :=
  ⟨own_below' h.own1 hb, own_below' h.own2 hb, h.bel.trans (hb.mono h.bel.size)⟩
/-- What the walk knows between two entries. -/
theorem own_slice3 {w : World} {base : Nat} {e : TypeId} {size : Nat} {v : Value} {n : Nat} {xs : List Value} (h : w.ownsRow base e size v n xs) : ∃ (a : Option Addr) (c : Nat), v = .slice a n c := by
  rcases h.2 with ⟨rfl, h0⟩ | ⟨g', cap, cur, rfl, _⟩
  · exact ⟨none, 0, by rw [h0]⟩
  · exact ⟨_, _, rfl⟩
structure DRel (d : List UInt8) (bl : List Int) (lba : Int) (w0 : World) (out sn i : Value) (wx : World) : Prop where
  ex : ∃ (at_ : Nat) (acc : List Nat) (l : List (ByteArray × FidS)) (seen : List (List UInt8)), i = .int .i64 at_ ∧ at_ ≤ d.length ∧ acc.length * 40 ≤ at_ ∧ l.length * 40 ≤ at_ ∧ DSt w0 lba acc l out sn wx ∧
    (∀ t : ByteArray, l.any (fun x => hit x t) = seen.contains t.data.toList) ∧ found d bl = acc ++ offsAll d bl at_ seen
/-- The block of an entry that was read. -/
def FBlk (g : Nat) (vs : Array Value) (wx : World) : Prop := wx.heap[g]? = some (.cells vs 54 (0, 0))
theorem below_alloc_new {w : World} (o : Obj) : Below w.heap.size w (w.alloc o) := (Below.refl _ _).alloc (Nat.le_refl _) o
theorem below_drew0 (w : World) : Below w.heap.size w w.drew := below_drew (Below.refl _ _)
theorem fidAt_chars {l : List UInt8} {loc : Int} {f : FidS} {n : Nat} (h : fidAt l loc = some (f, n)) : (∀ c ∈ f.cs, isChar c = true) ∧ f.cs.length ≤ 254 := by
  unfold fidAt at h
  split at h
  · dsimp only at h
    split at h
    · split at h
      · cases h
      · rename_i cs hcs
        split at h
        · injection h with h
          injection h with h1 h2
          subst h1
          have := chars_len hcs (by rw [List.length_take]; have := nb_lt l 19; omega)
          exact ⟨this.1, this.2.2⟩
        · cases h
    · cases h
  · cases h
theorem hit_eq (t : ByteArray) (f : FidS) (t' : ByteArray) : hit (t, f) t' = ((!f.deleted && !f.parent) && (t.data.toList == t'.data.toList)) := by
  rw [hit, ByteArray.toList_eq, ByteArray.toList_eq]
theorem FBlk.cell {g : Nat} {vs : Array Value} {wx : World} (h : FBlk g vs wx) (k : Nat) (v : Value) (hv : vs[k]? = some v) : wx.cell? ⟨g, k, none⟩ = some v := by
  rw [cell_of_row _ _ k vs _ (0, 0) h]; exact hv
theorem FBlk.step {g : Nat} {vs : Array Value} {wx w' : World} (h : FBlk g vs wx) (hb : Below wx.heap.size wx w') : FBlk g vs w' := (hb.block g (Array.getElem?_eq_some_iff.1 h).1).trans h
/-- What is known when an entry was held to be right or wrong. -/
def WRel (wv : Bool) (g : Nat) (vs : Array Value) (lba : Int) (w0 : World) (acc : List Nat) (l : List (ByteArray × FidS)) (out sn s85 : Value) (wx : World) : Prop := s85 = .bool wv ∧ FBlk g vs wx ∧ DSt w0 lba acc l out sn wx
/-- What is known when an entry is read. -/
def GRel (o : Option (FidS × Nat)) (lba : Int) (w0 : World) (acc : List Nat) (l : List (ByteArray × FidS)) (out sn s11 s12 s13 : Value) (wx : World) : Prop := ∃ (g : Nat) (vs : Array Value) (n er : Int), s11 = .pointer (some ⟨g, 0, none⟩) ∧ s12 = .int .i64 n ∧ s13 = .int .i64 er ∧ vs.size = 9 ∧ DOut o (.agg vs) n er ∧ FBlk g vs wx ∧ DSt w0 lba acc l out sn wx
theorem r_checkdir (s : ByteArray) (a : Option Addr) (bl : List Int) (cap : Nat) (lba : Int) (w : World) (hz : s.size ≤ 6000)
    (hbl : ∀ k, (h : k < bl.length) → ∃ b off, a = some ⟨b, off, none⟩ ∧ b < w.heap.size ∧ w.cell? ⟨b, off + k, none⟩ = some (.int .i64 bl[k])) :
    Calls Tryz.prog 7 #[.string s, .slice a bl.length cap, .int .i64 lba] w fun e w' => ∃ v, e = .returned v ∧ w'.ownsRow w.heap.size 27 3 v (found s.data.toList bl).length (findV lba (found s.data.toList bl)) ∧ Below w.heap.size w w' := by
  have HBL := Lib.hid hbl
  clear hbl
  by_cases h0 : s.size = 0
  · have hd : s.data.toList = [] := List.length_eq_zero_iff.1 (by rw [len_data]; exact h0)
    have he : s.toList.isEmpty = true := by rw [ByteArray.toList_eq, hd]; rfl
    have HF := Lib.hid (show found s.data.toList bl = [] ++ [0] by unfold found; rw [hd]; rfl)
    clear hd
    have own0 : (w.alloc (.cells #[] 27)).ownsRow w.heap.size 27 3 (.slice (some ⟨w.heap.size, 0, none⟩) 0 0) ([] : List Nat).length (findV lba []) := World.ownsRow_lit _ _ 0 (Nat.le_refl _) (by decide) rfl
    have hb0 : Below w.heap.size w (w.alloc (.cells #[] 27)) := (Below.refl _ _).alloc (Nat.le_refl _) _
    have HA := Lib.hid (r_add w.heap.size _ [] lba 0 _ own0 (by simp) hb0.size)
    clear own0
    go_enter Tryz.func7, Tryz.ntmps7
    go_wp2_with fail
    refine HA.out.mono ?_
    rintro e w1 ⟨v', rfl, hown, _, hb1⟩
    go_wp2
    go_ret
    exact ⟨_, rfl, by rw [HF.out]; exact hown, hb0.trans hb1⟩
  · have he := nonempty_str (show 0 < s.size by omega)
    have hfd : found s.data.toList bl = [] ++ offsAll s.data.toList bl 0 [] := by
      unfold found
      have : s.data.toList.isEmpty = false := by rw [← ByteArray.toList_eq]; exact he
      rw [this]; rfl
    have own0 : (w.alloc (.cells #[] 27)).ownsRow w.heap.size 27 3 (.slice (some ⟨w.heap.size, 0, none⟩) 0 0) ([] : List Nat).length (findV lba []) := World.ownsRow_lit _ _ 0 (Nat.le_refl _) (by decide) rfl
    have hb0 : Below w.heap.size w (w.alloc (.cells #[] 27)) := (Below.refl _ _).alloc (Nat.le_refl _) _
    have hst0 : DSt w lba [] [] (.slice (some ⟨w.heap.size, 0, none⟩) 0 0) (.slice (some ⟨w.heap.size + 1, 0, none⟩) 0 0) ((w.alloc (.cells #[] 27)).alloc (.cells #[] 54)) :=
      ⟨own0.alloc _, by
        have hsz : (w.alloc (.cells #[] 27)).heap.size = w.heap.size + 1 := by show (w.heap.push _).size = _; simp
        rw [← hsz]
        exact World.ownsRow_lit _ _ 0 (by rw [hsz]; omega) (by decide) rfl, hb0.alloc hb0.size _⟩
    have H0 : Hid (DRel s.data.toList bl lba w (.slice (some ⟨w.heap.size, 0, none⟩) 0 0) (.slice (some ⟨w.heap.size + 1, 0, none⟩) 0 0) (.int .i64 0) ((w.alloc (.cells #[] 27)).alloc (.cells #[] 54))) :=
      ⟨0, [], [], [], rfl, by omega, by simp, by simp, hst0, fun t => rfl, hfd⟩
    clear own0 hb0 hst0 hfd
    go_enter Tryz.func7, Tryz.ntmps7
    go_wp2_with fail
    go_loopw [7, 8, 9] (fun out sn i wx => DRel s.data.toList bl lba w out sn i wx) (fun _ _ i _ => s.size - (intOf i).toNat)
    case atStart => exact H0.out
    case round =>
      obtain ⟨at_, acc, l, seen, rfl, hat, hacc, hll, hst, hseen, hfnd⟩ := hrel
      rw [len_data] at hat
      have HFND := Lib.hid hfnd
      have HSEEN := Lib.hid hseen
      clear hfnd hseen H0
      obtain ⟨ao, co, rfl⟩ := own_slice3 hst.own1
      obtain ⟨asn, csn, rfl⟩ := own_slice3 hst.own2
      by_cases hlt : at_ < s.size
      · have hi : (at_ : Int) < s.size := by omega
        have h256 : (acc.length : Int) < 256 := by omega
        obtain ⟨q, hq⟩ : ∃ q : Nat, q = at_ / 2048 := ⟨_, rfl⟩
        have hq' : (at_ : Int) / 2048 = q := by omega
        by_cases hk : q < bl.length
        · have hki : (q : Int) < bl.length := by omega
          obtain ⟨b, off, rfl, hbw, hcell⟩ := HBL.out q hk
          have hc := (hst.bel.cell (by exact hbw)).trans hcell
          have hsome : bl[at_ / 2048]? = some bl[q] := by rw [← hq]; exact List.getElem?_eq_getElem hk
          have hbw2 : b < wr.heap.size := Nat.lt_of_lt_of_le hbw hst.bel.size
          have hc2 : ∀ o, (wr.drew.alloc o).cell? ⟨b, off + q, none⟩ = some (.int .i64 bl[q]) := fun o => (World.cell?_alloc_past _ _ _ hbw2).trans hc
          have HSOME := Lib.hid hsome
          have HQ := Lib.hid hq
          clear hsome hcell hbw hq
          generalize bl[q] = bq at *
          have hx1 : (0 : Int) ≤ (at_ : Int) := by omega
          have hx2 : (at_ : Int) ≤ s.size := by omega
          have hcd : (s.extract at_ s.size).data.toList = s.data.toList.drop at_ := by rw [cut_data]; exact List.take_of_length_le (by simp)
          have hcz : (s.extract at_ s.size).size ≤ 65536 := by rw [← len_data, hcd]; simp; omega
          have HD := Lib.hid (fun W : World => r_decode (s.extract at_ s.size) bq W hcz)
          rw [hcd] at HD
          clear hcd hcz
          go_upto_region 10 with (fail)
          go_cut [11, 12, 13] from 21 to 96 (fun s11 s12 s13 wx => GRel (fidAt (s.data.toList.drop at_) bq) lba w acc l (.slice ao acc.length co) (.slice asn l.length csn) s11 s12 s13 wx)
          case first =>
            go_region_with (first
              | (go_at_call 16; refine (HD.out _).mono ?_; rintro e w5 ⟨v, n, er, rfl, ⟨⟨vs, rfl, hvs, hv1⟩, hdo⟩, hb5⟩; have hrun := run_storeCells_new (P := Tryz.prog) w5 54 fidZ vs (by rw [hvs]; exact fid_size) (by rw [hvs]; rfl) hv1; try (have hg5 : w5.heap[wr.heap.size]? = some (.cells fidZ 54 (0, 0)) := (hb5.block _ (by show wr.heap.size < (wr.heap.push _).size; simp)).trans (heap_alloc_last wr.drew _); have hrun2 := run_storeCells_row (P := Tryz.prog) w5 wr.heap.size _ fidZ vs hg5 (by rw [hvs]; rfl) hv1)))
            all_goals
              go_wp2_with fail
              go_meet
              case rel => first
                | exact ⟨_, vs, n, er, rfl, rfl, rfl, hvs, hdo, heap_alloc_last _ _, ((hst.step (below_drew0 _)).step hb5).step (below_alloc_new _)⟩
                | exact ⟨_, vs, n, er, rfl, rfl, rfl, hvs, hdo, setRow_heap _ _ _ _ _ _ hg5, hst.step (below_setRow (((below_drew0 wr).trans (below_alloc_new (w := wr.drew) _)).trans (hb5.mono (by show wr.heap.size ≤ (wr.heap.push _).size; simp))) (Nat.le_refl _) vs)⟩
          case rest =>
            clear HD hst hc hc2
            obtain ⟨g, vs, n, er, rfl, rfl, rfl, hvs, hdo, hblk, hst⟩ := hcut
            cases hf : fidAt (s.data.toList.drop at_) bq with
            | none =>
              rw [hf] at hdo
              have hne : ((er : Int) != 0) = true := by rw [bne_iff_ne]; exact hdo
              have HX := Lib.hid (show found s.data.toList bl = acc ++ [at_] by rw [HFND.out, offsAll_bad (by rw [len_data]; exact hlt) HSOME.out hf])
              have HA := Lib.hid (r_add w.heap.size _ acc lba at_ _ hst.own1 (by omega) hst.bel.size)
              have bel := hst.bel
              clear hdo hf hst
              go_wp2_with fail
              refine HA.out.mono ?_
              rintro e w6 ⟨v', rfl, hown, _, hb6⟩
              go_wp2
              go_ret
              exact ⟨_, rfl, by rw [HX.out]; exact hown, bel.trans hb6⟩
            | some fm =>
              obtain ⟨f, m⟩ := fm
              rw [hf] at hdo
              have h40 := fidAt_size hf
              have hm6 : m ≤ 6000 := by have := h40.2; rw [List.length_drop, len_data] at this; omega
              have HO := Lib.hid (offsAll_fid (seen := seen) (by rw [len_data]; exact hlt) HSOME.out hf)
              obtain ⟨⟨t, hvt, ht⟩, rfl, rfl⟩ := hdo
              have hv9 : vs = fidA t f.hidden f.directory f.deleted f.parent f.metadata f.block f.part f.unique := by injection hvt
              clear hvt hvs
              subst hv9
              obtain ⟨hcc, hcl⟩ := fidAt_chars hf
              have htl : t.size ≤ 65536 := by rw [← len_data, ht, FidS.name]; have := (encs_len f.cs).2; omega
              have HN := Lib.hid (fun W : World => r_name18 t f.cs W ht hcc htl)
              have HLk := Lib.hid (fun (W : World) (h : W.ownsRow w.heap.size 54 9 (.slice asn l.length csn) l.length (fidsV l)) => r_lookup w.heap.size _ l t W h (by omega))
              have HW := Lib.hid (show wrong f at_ seen = ((f.parent != decide (at_ = 0)) || ((!f.deleted && !f.parent) && (!goodCs f.cs || l.any (fun x => hit x t)))) by rw [HSEEN.out t, ht]; rfl)
              have HT := Lib.hid ht
              clear ht hcc hcl htl hf
              have c0 := hblk.cell 0 _ rfl
              have c3 := hblk.cell 3 _ rfl
              have c4 := hblk.cell 4 _ rfl
              have hz0 : ((at_ : Int) == 0) = decide (at_ = 0) := by rw [Bool.eq_iff_iff]; simp
              generalize hwv : wrong f at_ seen = wv at *
              have HWV := Lib.hid hwv
              clear hwv
              generalize hz : decide (at_ = 0) = z at *
              clear hz
              go_upto_region 13 with (fail)
              go_cut [85] from 21 to 96 (fun s85 wx => WRel wv g (fidA t f.hidden f.directory f.deleted f.parent f.metadata f.block f.part f.unique) lba w acc l (.slice ao acc.length co) (.slice asn l.length csn) s85 wx)
              case first =>
                generalize hp : f.parent = par at *
                generalize hd : f.deleted = del at *
                clear hp hd
                cases par <;> cases z
                · cases del
                  · go_wp2_with fail
                    refine (HN.out _).mono ?_
                    rintro e w6 ⟨rfl, hb6⟩
                    have hblk6 := hblk.step hb6
                    have hst6 := hst.step hb6
                    have k0 := hblk6.cell 0 _ rfl
                    clear hblk hst hb6
                    generalize goodCs f.cs = good at *
                    cases good
                    · go_wp2_with fail
                      go_meet
                      case rel => exact ⟨by rw [HW.out]; rfl, hblk6, hst6⟩
                    · go_wp2_with fail
                      refine (HLk.out _ hst6.own2).mono ?_
                      rintro e w7 ⟨r, rfl, hr, rfl⟩
                      have HR := Lib.hid hr
                      clear hr
                      go_wp2_with fail
                      go_meet
                      case rel => exact ⟨by rw [HW.out, HR.out]; rfl, hblk6, hst6⟩
                  · go_wp2_with fail
                    go_meet
                    case rel => exact ⟨by rw [HW.out]; rfl, hblk, hst⟩
                all_goals
                  cases del
                  all_goals
                    go_wp2_with fail
                    go_meet
                    case rel => exact ⟨by rw [HW.out]; first | rfl | simp, hblk, hst⟩
              case rest =>
                clear hblk hst c0 c3 c4 HN HLk
                obtain ⟨rfl, hblk, hst⟩ := hcut
                go_upto_if 85 with (fail)
                go_cut [7] from 21 to 96 (fun s7 wx => ∃ (acc' : List Nat) (c' : Nat) (a' : Option Addr), s7 = .slice a' acc'.length c' ∧ acc' = acc ++ (if wv then [at_] else []) ∧ FBlk g (fidA t f.hidden f.directory f.deleted f.parent f.metadata f.block f.part f.unique) wx ∧ DSt w lba acc' l s7 (.slice asn l.length csn) wx)
                case first =>
                  cases wv
                  · go_wp2_with fail
                    go_meet
                    case rel => exact ⟨acc, co, ao, rfl, by simp, hblk, hst⟩
                  · have HA := Lib.hid (r_add w.heap.size _ acc lba at_ _ hst.own1 (by omega) hst.bel.size)
                    go_wp2_with fail
                    refine HA.out.mono ?_
                    rintro e w6 ⟨v', rfl, hown, ⟨ob, hgr⟩, hb6⟩
                    obtain ⟨a', c', rfl⟩ := own_slice3 hown
                    have hblk6 : FBlk g (fidA t f.hidden f.directory f.deleted f.parent f.metadata f.block f.part f.unique) w6 := by
                      have h1 := (Below.heap_alloc wc ob g (lt_of_block hblk)).trans hblk
                      refine (hgr.block g (lt_of_block h1) ?_).trans h1
                      intro e
                      rcases hst.own1.2 with ⟨h2, _⟩ | ⟨g2, cap2, cur2, h2, _, h3, _⟩
                      · rw [h2] at e; simp [Value.ownBlock] at e
                      · rw [h2] at e
                        have e1 : g = g2 := by simpa [Value.ownBlock] using e
                        subst e1
                        have := hblk.symm.trans h3
                        injection this with this
                        injection this with _ h5
                        exact absurd h5 (by decide)
                    have hst6 : DSt w lba (acc ++ [at_]) l (.slice a' (acc ++ [at_]).length c') (.slice asn l.length csn) w6 :=
                      ⟨hown, (hst.own2.alloc ob).kept hgr (own_ne2 hst.own2 hst.own1 (by decide)), hst.bel.trans hb6⟩
                    clear hgr hown hb6 hst hblk
                    go_wp2_with fail
                    go_meet
                    case rel => exact ⟨acc ++ [at_], c', a', by simp, by simp, hblk6, by simpa using hst6⟩
                case rest =>
                  clear hblk hst
                  obtain ⟨acc', c', a', rfl, hacc', hblk, hst⟩ := hcut
                  obtain ⟨i0, hi9, hz0', hz1, hz2⟩ := info_parts info_fid
                  have HACC := Lib.hid hacc'
                  clear hacc'
                  have hll2 : l.length ≤ 6000 := by omega
                  go_wp2_with (first
                    | (refine wpList_load_row rfl _ _ rfl g _ (fidA t f.hidden f.directory f.deleted f.parent f.metadata f.block f.part f.unique) _ rfl hblk Tryz.underlying54 rfl 9 fid_size rfl ?_)
                    | (at_builtin; refine wpList_append_own _ rfl _ _ 58 rfl w.heap.size 54 i0 (.agg #[.string ⟨#[]⟩, .bool false, .bool false, .bool false, .bool false, .bool false, .int .i64 0, .int .i64 0, .int .i64 0]) 9 48 Tryz.underlying58 hi9 hz0' hz1 hz2 rfl (by decide) _ _ _ rfl (hst.own2.alloc _) ⟨wc.heap.size, 0, none⟩ 1 1 (fidL (t, f)) rfl rfl ?_ ?_ ?_ ?_ ?_ ?_)
                    | go_in)
                  · first | exact new_cells _ _ _ | exact fun _ _ h => h
                  · intro u hu
                    simp [fidL] at hu
                    rcases hu with rfl | rfl | rfl | rfl | rfl | rfl | rfl | rfl | rfl <;> rfl
                  · unfold maxLen; omega
                  · omega
                  · have := hst.bel.size; first | (simp; omega) | omega
                  · intro v' w8 hown' hgrow _
                    rw [← fidsV_snoc] at hown'
                    have hst8 : DSt w lba acc' (l ++ [(t, f)]) (.slice a' acc'.length c') v' w8 :=
                      ⟨(hst.own1.alloc _).kept hgrow (own_ne2 hst.own1 hst.own2 (by decide)), by rw [List.length_append]; exact hown',
                        (hst.bel.alloc hst.bel.size _).grown hgrow (hst.bel.alloc hst.bel.size _).size (fun j hj => (hst.own2.lt j hj).1)⟩
                    clear hown' hgrow hblk hst
                    go_wp2
                    go_roundw
                    case rel =>
                      have hm2 := h40.2
                      rw [List.length_drop, len_data] at hm2
                      have hal : acc'.length ≤ acc.length + 1 := by rw [HACC.out]; cases wv <;> simp
                      refine ⟨at_ + m, acc', l ++ [(t, f)], if !f.deleted && !f.parent then f.name :: seen else seen, by go_num, by rw [len_data]; omega, by omega, by simp; omega, hst8, ?_, ?_⟩
                      · intro t'
                        rw [List.any_append, HSEEN.out t']
                        simp only [List.any_cons, List.any_nil, Bool.or_false]
                        rw [hit_eq, HT.out]
                        cases hpl : (!f.deleted && !f.parent)
                        · simp
                        · simp only [if_true, Bool.true_and, List.contains_cons]
                          rw [Bool.or_comm]
                          congr 1
                          rw [Bool.eq_iff_iff]; simp only [beq_iff_eq]; exact eq_comm
                      · rw [HFND.out, HO.out, HACC.out, List.append_assoc]
                    case measure => have := h40.1; simp [intOf]; omega
        · have hnb : bl[at_ / 2048]? = none := by rw [← hq]; exact List.getElem?_eq_none (by omega)
          have hki : (bl.length : Int) ≤ q := by omega
          have HX := Lib.hid (show found s.data.toList bl = acc ++ [at_] by rw [HFND.out, offsAll_noblock (by rw [len_data]; exact hlt) hnb])
          have HA := Lib.hid (r_add w.heap.size _ acc lba at_ _ hst.own1 (by omega) hst.bel.size)
          have bel := hst.bel
          clear hnb hq hk hst
          go_wp2_with fail
          refine HA.out.mono ?_
          rintro e w6 ⟨v', rfl, hown, _, hb6⟩
          go_wp2
          go_ret
          exact ⟨_, rfl, by rw [HX.out]; exact hown, bel.trans hb6⟩
      · have hat' : at_ = s.size := by omega
        have HX := Lib.hid (show found s.data.toList bl = acc by rw [HFND.out, offsAll_end (by rw [len_data]; omega), List.append_nil])
        have own1 := Lib.hid hst.own1
        have bel := hst.bel
        subst hat'
        clear hst
        go_wp2
        go_ret
        exact ⟨_, rfl, by rw [HX.out]; exact own1.out, bel⟩
end Go.Proofs.YtmgbbnnjbgemdaaGreatDoor
