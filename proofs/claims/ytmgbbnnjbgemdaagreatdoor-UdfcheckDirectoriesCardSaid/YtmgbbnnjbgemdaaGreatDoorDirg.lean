/- Law 45, UdfcheckDirectories: walks of the program: CheckDirectory; equal lists. -/
import Derived.Test.YtmgbbnnjbgemdaaGreatDoorDire
import Derived.Test.YtmgbbnnjbgemdaaGreatDoorDirc
import Derived.Maps.OwnSet
import Derived.Deep.QuietTactic
import Derived.BigQuiet
/- Law 45, directories: the program's set of names. -/
namespace Go.Proofs.YtmgbbnnjbgemdaaGreatDoor
open Go.RowKit
open Go.Maps (Keyed IsMap)
set_option maxRecDepth 1000000
set_option maxHeartbeats 1600000
theorem mapLaw : Keyed Tryz.prog 9 := Maps.string_keyed Tryz.underlying9
/-- Block b is a map that holds these names. -/
def SetAt (b n : Nat) (seen : List (List UInt8)) (w : World) : Prop := ∃ D : DataW Unit, w.ownsMap Tryz.prog 9 (plainElem Tryz.prog 4) b n D ∧ ∀ l : List UInt8, D.atKey (.string l) (.lit (.bool false)) = .lit (.bool (seen.contains l))
theorem SetAt.new (w : World) : SetAt w.heap.size 0 [] (w.alloc (.map #[] 0)) := ⟨.map [], World.ownsMap_made _ _ _ _, fun _ => rfl⟩
theorem SetAt.lookup {b n : Nat} {seen : List (List UInt8)} {w : World} (h : SetAt b n seen w) (s : ByteArray) (hs : s.size ≤ maxLen) :
    (Instr.lookup 48 (.map (some b)) (.string s) false).run Tryz.prog w = .ok (.bool (seen.contains s.data.toList)) w := by
  obtain ⟨D, hD, hat⟩ := h
  obtain ⟨v, ps, hrun, hv⟩ := hD.lookup mapLaw Tryz.underlying48 (z := .bool false) (Tryz.zeroValue4 w) (plainElem_bool Tryz.underlying4 false) (Go.WideMaps.keyOf_string_mk Tryz.underlying9 hs)
  rw [hat] at hv
  have hb : v = .bool (seen.contains s.data.toList) := by
    cases v <;> simp [plainElem] at hv
    rw [hv.1, Bool.eq_iff_iff.2 (by simp : (decide (s.data.toList ∈ seen) = true) ↔ seen.contains s.data.toList = true)]
  rw [hrun, hb]
theorem SetAt.put {b n : Nat} {seen : List (List UInt8)} {w' : World} {D : DataW Unit} {name : List UInt8} (hI : IsMap D) (hat : ∀ l : List UInt8, D.atKey (.string l) (.lit (.bool false)) = .lit (.bool (seen.contains l))) (h : w'.ownsMap Tryz.prog 9 (plainElem Tryz.prog 4) b (n + 1) (D.put (.string name) (.lit (.bool true)))) : SetAt b (n + 1) (name :: seen) w' := by
  refine ⟨_, h, fun l => ?_⟩
  by_cases hl : l = name
  · subst hl
    rw [Maps.atKey_put_same hI (show WideAt.IsKeyLit (.string l) from trivial)]
    simp
  · rw [Maps.atKey_put_other (by intro e; injection e with e; exact hl e), hat, List.contains_cons]
    have : (l == name) = false := by rw [beq_eq_false_iff_ne]; exact hl
    rw [this, Bool.false_or]
/-- What the closure sees: the data's and the blocks' variables, the names, the findings, the lba. -/
structure KRel (w0 : World) (gd gb gs go gl gm : Nat) (d : ByteArray) (bv : Value) (lba : Int) (acc : List Nat) (seen : List (List UInt8)) (n : Nat) (wx : World) : Prop where
  dv : wx.heap[gd]? = some (.cells #[.string d] 9 (0, 0))
  bb : wx.heap[gb]? = some (.cells #[bv] 22 (0, 0))
  sv : wx.heap[gs]? = some (.cells #[.map (some gm)] 48 (0, 0))
  lv : wx.heap[gl]? = some (.cells #[.int .i64 lba] 3 (0, 0))
  ov : ∃ v, wx.heap[go]? = some (.cells #[v] 25 (0, 0)) ∧ wx.ownsRow w0.heap.size 27 3 v acc.length (findV lba acc)
  mp : SetAt gm n seen wx
  ge : w0.heap.size ≤ go ∧ w0.heap.size ≤ gm
  bel : Below w0.heap.size w0 wx
theorem SetAt.step {b n : Nat} {seen : List (List UInt8)} {w w' : World} (h : SetAt b n seen w) (hb : Below w.heap.size w w') : SetAt b n seen w' := by
  obtain ⟨D, hD, hat⟩ := h
  refine ⟨D, ?_, hat⟩
  have hlt := hD.lt
  obtain ⟨es, clock, h1, F, h2, h3⟩ := hD
  exact ⟨es, clock, (hb.block b hlt).trans h1, F, h2, h3⟩
section
variable {w0 : World} {gd gb gs go gl gm : Nat} {d : ByteArray} {bv : Value} {lba : Int} {acc : List Nat} {seen : List (List UInt8)} {n : Nat} {wx w' : World}
theorem KRel.step (h : KRel w0 gd gb gs go gl gm d bv lba acc seen n wx) (hb : Below wx.heap.size wx w') : KRel w0 gd gb gs go gl gm d bv lba acc seen n w' := by
  have hk : ∀ {g : Nat} {o : Obj}, wx.heap[g]? = some o → w'.heap[g]? = some o := fun hg => (hb.block _ (Array.getElem?_eq_some_iff.1 hg).1).trans hg
  obtain ⟨v, hv, ho⟩ := h.ov
  exact ⟨hk h.dv, hk h.bb, hk h.sv, hk h.lv, ⟨v, hk hv, own_below' ho hb⟩, h.mp.step hb, h.ge, h.bel.trans (hb.mono h.bel.size)⟩
/-- A finding is added. -/
theorem KRel.add (h : KRel w0 gd gb gs go gl gm d bv lba acc seen n wx) {v v' : Value} {ob : Obj} {off : Nat} (hv : wx.heap[go]? = some (.cells #[v] 25 (0, 0))) (ho : wx.ownsRow w0.heap.size 27 3 v acc.length (findV lba acc))
    (hown : w'.ownsRow w0.heap.size 27 3 v' (acc ++ [off]).length (findV lba (acc ++ [off]))) (hg : (wx.alloc ob).grownBy w' v.ownBlock) : KRel w0 gd gb gs go gl gm d bv lba (acc ++ [off]) seen n (w'.setCell ⟨go, 0, none⟩ v') := by
  have hne : ∀ {g : Nat} {cs : Array Value} {ty : TypeId}, wx.heap[g]? = some (.cells cs ty (0, 0)) → ty ≠ 27 → w'.heap[g]? = some (.cells cs ty (0, 0)) := by
    intro g cs ty hgg hty
    have h1 := (Below.heap_alloc wx ob g (Array.getElem?_eq_some_iff.1 hgg).1).trans hgg
    refine (hg.block g (Array.getElem?_eq_some_iff.1 h1).1 ?_).trans h1
    intro e
    rcases ho.2 with ⟨h2, _⟩ | ⟨g2, cap2, cur2, h2, _, h3, _⟩
    · rw [h2] at e; simp [Value.ownBlock] at e
    · rw [h2] at e
      have e1 : g = g2 := by simpa [Value.ownBlock] using e
      subst e1
      have := hgg.symm.trans h3
      injection this with this
      injection this with _ h5
      exact hty h5
  have hset : ∀ {g : Nat} {cs : Array Value} {ty : TypeId}, wx.heap[g]? = some (.cells cs ty (0, 0)) → ty ≠ 27 → ty ≠ 25 → (w'.setCell ⟨go, 0, none⟩ v').heap[g]? = some (.cells cs ty (0, 0)) := by
    intro g cs ty hgg h1 h2
    refine (Below.heap_setCell w' ⟨go, 0, none⟩ v' g ?_).trans (hne hgg h1)
    rintro rfl
    have := hgg.symm.trans hv
    injection this with this
    injection this with _ h5
    exact h2 h5
  have hb2 : Below w0.heap.size w0 w' := (h.bel.alloc h.bel.size ob).grown hg (h.bel.alloc h.bel.size ob).size (fun j hj => (ho.lt j hj).1)
  refine ⟨hset h.dv (by decide) (by decide), hset h.bb (by decide) (by decide), hset h.sv (by decide) (by decide), hset h.lv (by decide) (by decide), ⟨v', one_setCell (hne hv (by decide)), ?_⟩, ?_, h.ge, hb2.setCell (p := ⟨go, 0, none⟩) h.ge.1 v'⟩
  · refine ownsRow_setCell_other hown ?_ _
    rcases hown.2 with ⟨rfl, _⟩ | ⟨g', cap, cur, rfl, _, hh, _⟩
    · simp [Value.ownBlock]
    · intro he
      have e : g' = go := by simpa [Value.ownBlock] using he
      subst e
      have := (hne hv (by decide)).symm.trans hh
      injection this with this
      injection this with _ h5
      exact absurd h5 (by decide)
  · obtain ⟨D, hD, hat⟩ := h.mp
    refine ⟨D, ?_, hat⟩
    have hlt := hD.lt
    obtain ⟨es, clock, h1, F, h2, h3⟩ := hD
    have h4 := (Below.heap_alloc wx ob gm hlt).trans h1
    have h5 : w'.heap[gm]? = some (.map es clock) := by
      refine (hg.block gm (Array.getElem?_eq_some_iff.1 h4).1 ?_).trans h4
      intro e
      rcases ho.2 with ⟨h2, _⟩ | ⟨g2, cap2, cur2, h2, _, h3, _⟩
      · rw [h2] at e; simp [Value.ownBlock] at e
      · rw [h2] at e
        have e1 : gm = g2 := by simpa [Value.ownBlock] using e
        subst e1
        have := h1.symm.trans h3
        injection this with this
        cases this
    refine ⟨es, clock, (Below.heap_setCell w' ⟨go, 0, none⟩ v' gm ?_).trans h5, F, h2, h3⟩
    rintro rfl
    have := h1.symm.trans hv
    injection this with this
    cases this
/-- A name is put in. -/
theorem KRel.put (h : KRel w0 gd gb gs go gl gm d bv lba acc seen n wx) {D : DataW Unit} {name : List UInt8} (hD : wx.ownsMap Tryz.prog 9 (plainElem Tryz.prog 4) gm n D) (hat : ∀ l : List UInt8, D.atKey (.string l) (.lit (.bool false)) = .lit (.bool (seen.contains l)))
    (hm : w'.ownsMap Tryz.prog 9 (plainElem Tryz.prog 4) gm (n + 1) (D.put (.string name) (.lit (.bool true)))) (hg : wx.grownBy w' (some gm)) : KRel w0 gd gb gs go gl gm d bv lba acc (name :: seen) (n + 1) w' := by
  have hI := hD.isMap
  obtain ⟨es, clock, hmb, _⟩ := hD
  have hk : ∀ {g : Nat} {cs : Array Value} {ty : TypeId}, wx.heap[g]? = some (.cells cs ty (0, 0)) → w'.heap[g]? = some (.cells cs ty (0, 0)) := by
    intro g cs ty hgg
    refine (hg.block g (Array.getElem?_eq_some_iff.1 hgg).1 ?_).trans hgg
    intro e
    have e1 : g = gm := by simpa using e
    subst e1
    have := hgg.symm.trans hmb
    injection this with this
    cases this
  obtain ⟨v, hv, ho⟩ := h.ov
  refine ⟨hk h.dv, hk h.bb, hk h.sv, hk h.lv, ⟨v, hk hv, ho.kept hg ?_⟩, SetAt.put hI hat hm, h.ge, h.bel.grown hg h.bel.size (fun j hj => by cases hj; exact h.ge.2)⟩
  rcases ho.2 with ⟨rfl, _⟩ | ⟨g', cap, cur, rfl, _, hh, _⟩
  · exact .inl rfl
  · refine .inr fun he => ?_
    have e : g' = gm := by simpa [Value.ownBlock] using he
    subst e
    have := hmb.symm.trans hh
    injection this with this
    cases this
end
end Go.Proofs.YtmgbbnnjbgemdaaGreatDoor

/- Law 45, directories: the program's closure that looks at one entry. -/
namespace Go.Proofs.YtmgbbnnjbgemdaaGreatDoor
open Go.RowKit
set_option maxRecDepth 1000000
set_option maxHeartbeats 1600000
/-- The entry's block and what the closure sees. -/
def JRel (gf : Nat) (vs : Array Value) (w0 : World) (gd gb gs go gl gm : Nat) (d : ByteArray) (bv : Value) (lba : Int) (acc : List Nat) (seen : List (List UInt8)) (n : Nat) (wx : World) : Prop := FBlk gf vs wx ∧ KRel w0 gd gb gs go gl gm d bv lba acc seen n wx
theorem row_kept {w0 wx w' : World} {v : Value} {l : List Nat} {lba : Int} {ob : Obj} {g : Nat} {cs : Array Value} {ty : TypeId} (hgg : wx.heap[g]? = some (.cells cs ty (0, 0))) (hty : ty ≠ 27)
    (ho : wx.ownsRow w0.heap.size 27 3 v l.length (findV lba l)) (hg : (wx.alloc ob).grownBy w' v.ownBlock) : w'.heap[g]? = some (.cells cs ty (0, 0)) := by
  have h1 := (Below.heap_alloc wx ob g (Array.getElem?_eq_some_iff.1 hgg).1).trans hgg
  refine (hg.block g (Array.getElem?_eq_some_iff.1 h1).1 ?_).trans h1
  intro e
  rcases ho.2 with ⟨h2, _⟩ | ⟨g2, cap2, cur2, h2, _, h3, _⟩
  · rw [h2] at e; simp [Value.ownBlock] at e
  · rw [h2] at e
    have e1 : g = g2 := by simpa [Value.ownBlock] using e
    subst e1
    have := hgg.symm.trans h3
    injection this with this
    injection this with _ h5
    exact hty h5
theorem KRel.cells {w0 : World} {gd gb gs go gl gm : Nat} {d : ByteArray} {bv : Value} {lba : Int} {acc : List Nat} {seen : List (List UInt8)} {n : Nat} {wx : World} (h : KRel w0 gd gb gs go gl gm d bv lba acc seen n wx) : wx.cell? ⟨gs, 0, none⟩ = some (.map (some gm)) ∧ wx.cell? ⟨gl, 0, none⟩ = some (.int .i64 lba) :=
  ⟨cell_of_one h.sv, cell_of_one h.lv⟩
theorem p_step (w0 : World) (gd gb gs go gl gm : Nat) (d : ByteArray) (bv : Value) (lba : Int) (acc : List Nat) (seen : List (List UInt8)) (n off : Nat) (t : ByteArray) (cs : List Nat) (hid dir del par met : Bool) (b p u : Nat) (w : World)
    (hK : KRel w0 gd gb gs go gl gm d bv lba acc seen n w) (hT : Tabs w) (ht : t.data.toList = encs cs) (hc : ∀ c ∈ cs, isChar c = true) (htz : t.size ≤ 65536) (hacc : acc.length ≤ 200) (hn : n ≤ 10000)
    (acc2 : List Nat) (ha2 : acc2 = acc ++ if (par != decide (off = 0)) || ((!del && !par) && (!goodCs cs || seen.contains (encs cs))) then [off] else []) (seen2 : List (List UInt8)) (hs2 : seen2 = if !del && !par then encs cs :: seen else seen) :
    Calls Tryz.prog 13 #[.int .i64 off, fidV t hid dir del par met b p u, .bool true, .pointer (some ⟨gs, 0, none⟩), .pointer (some ⟨go, 0, none⟩), .pointer (some ⟨gl, 0, none⟩)] w fun e w' => e = .returned (.bool true) ∧
      ∃ n', n' ≤ n + 1 ∧ KRel w0 gd gb gs go gl gm d bv lba acc2 seen2 n' w' := by
  have hJ0 : JRel w.heap.size (fidA t hid dir del par met b p u) w0 gd gb gs go gl gm d bv lba acc seen n (w.alloc (.cells (fidA t hid dir del par met b p u) 54)) := ⟨heap_alloc_last w _, hK.step (below_alloc_new' _)⟩
  have hT0 := hT.step (below_alloc_new' (w := w) (.cells (fidA t hid dir del par met b p u) 54))
  have HJ := Lib.hid hJ0
  have HTb := Lib.hid hT0
  have HN := Lib.hid (fun (W : World) (hW : Tabs W) => p_name14 t cs W hW ht hc htz)
  have htm : t.size ≤ maxLen := by unfold maxLen; omega
  have HTT := Lib.hid ht
  have c0 := hJ0.1.cell 0 _ rfl
  have c3 := hJ0.1.cell 3 _ rfl
  have c4 := hJ0.1.cell 4 _ rfl
  have hz0 : ((off : Int) == 0) = decide (off = 0) := by rw [Bool.eq_iff_iff]; simp
  have hacc2 : acc.length ≤ 65536 := by omega
  generalize hwv : ((par != decide (off = 0)) || ((!del && !par) && (!goodCs cs || seen.contains (encs cs)))) = wv at *
  have HWV := Lib.hid hwv
  have HA2 := Lib.hid ha2
  have HS2 := Lib.hid hs2
  clear ha2 hs2
  generalize hz : decide (off = 0) = z at *
  generalize hpl : (!del && !par) = pl at *
  have HPL := Lib.hid hpl
  unfold fidV
  clear hK hT ht hc hJ0 hT0 hwv hz hpl
  go_enter Tryz.func13, Tryz.ntmps13
  go_upto_region 1 with (fail)
  go_cut [10] (fun s10 wx => s10 = .bool pl ∧ wx = w.alloc (.cells (fidA t hid dir del par met b p u) 54))
  case first =>
    cases del <;> cases par
    all_goals
      go_wp2_with fail
      go_meet
      case rel => exact ⟨by rw [← HPL.out]; rfl, rfl⟩
  case rest =>
    obtain ⟨rfl, rfl⟩ := hcut
    go_upto_region 2 with (fail)
    go_cut [42] (fun s42 wx => s42 = .bool wv ∧ JRel w.heap.size (fidA t hid dir del par met b p u) w0 gd gb gs go gl gm d bv lba acc seen n wx)
    case first =>
      cases par
      · cases z
        · cases pl
          · go_wp2_with fail
            go_meet
            case rel => exact ⟨by rw [← HWV.out]; rfl, HJ.out⟩
          · go_wp2_with fail
            refine (HN.out _ HTb.out).mono ?_
            rintro e w6 ⟨rfl, hb6⟩
            have hJ6 : JRel w.heap.size (fidA t hid dir del _ met b p u) w0 gd gb gs go gl gm d bv lba acc seen n w6 := ⟨HJ.out.1.step hb6, HJ.out.2.step hb6⟩
            have k0 := hJ6.1.cell 0 _ rfl
            obtain ⟨ks, _⟩ := hJ6.2.cells
            have hlk := hJ6.2.mp.lookup t htm
            rw [HTT.out] at hlk
            have HJ6 := Lib.hid hJ6
            clear hb6 hJ6
            generalize goodCs cs = good at *
            generalize seen.contains (encs cs) = sc at *
            cases good
            · go_wp2_with fail
              go_meet
              case rel => exact ⟨by rw [← HWV.out]; rfl, HJ6.out⟩
            · go_wp2_with fail
              go_meet
              case rel => exact ⟨by rw [← HWV.out]; rfl, HJ6.out⟩
        · go_wp2_with fail
          go_meet
          case rel => exact ⟨by rw [← HWV.out]; rfl, HJ.out⟩
      · cases z
        · go_wp2_with fail
          go_meet
          case rel => exact ⟨by rw [← HWV.out]; rfl, HJ.out⟩
        · cases pl
          · go_wp2_with fail
            go_meet
            case rel => exact ⟨by rw [← HWV.out]; rfl, HJ.out⟩
          · go_wp2_with fail
            refine (HN.out _ HTb.out).mono ?_
            rintro e w6 ⟨rfl, hb6⟩
            have hJ6 : JRel w.heap.size (fidA t hid dir del _ met b p u) w0 gd gb gs go gl gm d bv lba acc seen n w6 := ⟨HJ.out.1.step hb6, HJ.out.2.step hb6⟩
            have k0 := hJ6.1.cell 0 _ rfl
            obtain ⟨ks, _⟩ := hJ6.2.cells
            have hlk := hJ6.2.mp.lookup t htm
            rw [HTT.out] at hlk
            have HJ6 := Lib.hid hJ6
            clear hb6 hJ6
            generalize goodCs cs = good at *
            generalize seen.contains (encs cs) = sc at *
            cases good
            · go_wp2_with fail
              go_meet
              case rel => exact ⟨by rw [← HWV.out]; rfl, HJ6.out⟩
            · go_wp2_with fail
              go_meet
              case rel => exact ⟨by rw [← HWV.out]; rfl, HJ6.out⟩
    case rest =>
      obtain ⟨rfl, hJ⟩ := hcut
      clear HJ c0 c3 c4 HN HTb
      go_upto_if 42 with (fail)
      go_cut [] (fun wx => JRel w.heap.size (fidA t hid dir del par met b p u) w0 gd gb gs go gl gm d bv lba acc2 seen n wx)
      case first =>
        cases wv
        · go_wp2_with fail
          go_meet
          case rel => rw [show acc2 = acc by rw [HA2.out]; simp]; exact hJ
        · obtain ⟨v, hv, ho⟩ := hJ.2.ov
          obtain ⟨_, kl⟩ := hJ.2.cells
          have cv := cell_of_one hv
          have fv := free_of_one hv
          have hge := hJ.2.bel.size
          obtain ⟨i0, hi, hy0, hy1, hy2⟩ := info_parts info_finding
          go_wp2_with (first
            | (at_builtin; refine wpList_append_own _ rfl _ _ 25 rfl w0.heap.size 27 i0 (.agg #[.int .i64 0, .int .i64 0, .int .i64 0]) 3 24 Tryz.underlying25 hi hy0 hy1 hy2 rfl (by decide) _ _ _ rfl (ho.alloc _) ⟨wc.heap.size, 0, none⟩ 1 1 [.int .i64 306, .int .i64 lba, .int .i64 (off : Int)] rfl rfl ?_ ?_ ?_ ?_ ?_ ?_)
            | go_in)
          · exact ⟨rfl, rfl, rfl⟩
          · unfold maxLen; omega
          · omega
          · first | (simp; omega) | omega
          · intro v' w2 hown' hgrow _
            have hv2 := row_kept hv (by decide) ho hgrow
            have hf2 := row_kept hJ.1 (by decide) ho hgrow
            have cv2 := cell_of_one hv2
            have fv2 := free_of_one hv2
            have hfin : JRel w.heap.size (fidA t hid dir del par met b p u) w0 gd gb gs go gl gm d bv lba acc2 seen n (w2.setCell ⟨go, 0, none⟩ v') := by
              rw [show acc2 = acc ++ [off] from HA2.out]
              refine ⟨(Below.heap_setCell w2 ⟨go, 0, none⟩ v' _ ?_).trans hf2, KRel.add hJ.2 hv ho (by rw [findV_snoc, List.length_append]; exact hown') hgrow⟩
              intro e
              have e' : w.heap.size = go := e
              rw [e'] at hf2
              have := hf2.symm.trans hv2
              injection this with this
              injection this with _ h5
              exact absurd h5 (by decide)
            obtain ⟨a', c', rfl⟩ := own_slice3 hown'
            clear hown' hgrow hv2 hf2 hv ho hJ
            go_wp2_with fail
            go_meet
            case rel => exact hfin
      case rest =>
        have hJ' := hcut
        have hal : acc2.length ≤ 201 := by rw [HA2.out, List.length_append]; cases wv <;> simp <;> omega
        clear hJ hcut
        have h256 : (acc2.length : Int) < 256 := by omega
        cases pl
        · obtain ⟨v, hv, ho⟩ := hJ'.2.ov
          obtain ⟨a', c', rfl⟩ := own_slice3 ho
          have cv := cell_of_one hv
          have HK := Lib.hid hJ'.2
          clear hJ' hv ho
          go_wp2_with fail
          go_ret
          exact ⟨rfl, n, by omega, by rw [show seen2 = seen from HS2.out]; exact HK.out⟩
        · obtain ⟨D, hD, hat⟩ := hJ'.2.mp
          obtain ⟨ks, _⟩ := hJ'.2.cells
          have k0 := hJ'.1.cell 0 _ rfl
          have hput := fun (w3 : World) h1 h2 => KRel.put (w' := w3) (name := encs cs) hJ'.2 hD hat h1 h2
          have HPut := Lib.hid hput
          clear hput hat
          go_wp2_with (first
            | (at_mapUpdate; refine wpList_mapUpdate_own _ rfl _ _ _ 48 rfl 9 4 mapLaw Tryz.underlying48 _ gm n D rfl hD (by unfold maxLen; omega) _ _ (.string (encs cs)) rfl rfl (by rw [← HTT.out]; exact WideMaps.keyOf_string_mk Tryz.underlying9 htm) _ [] (plainElem_bool Tryz.underlying4 true) ?_)
            | go_in)
          intro w3 hm3 hg3
          have hK3 := HPut.out w3 hm3 hg3
          obtain ⟨v, hv, ho⟩ := hK3.ov
          obtain ⟨a', c', rfl⟩ := own_slice3 ho
          have cv := cell_of_one hv
          have HK := Lib.hid hK3
          clear hK3 hv ho hm3 hg3 hD
          go_wp2_with fail
          go_ret
          exact ⟨rfl, n + 1, by omega, by rw [show seen2 = encs cs :: seen from HS2.out]; exact HK.out⟩
end Go.Proofs.YtmgbbnnjbgemdaaGreatDoor

/- Law 45, directories: the program's closure at what is no entry. -/
namespace Go.Proofs.YtmgbbnnjbgemdaaGreatDoor
open Go.RowKit
set_option maxRecDepth 1000000
set_option maxHeartbeats 1600000
theorem p_stepbad (w0 : World) (gd gb gs go gl gm : Nat) (d : ByteArray) (bv : Value) (lba : Int) (acc : List Nat) (seen : List (List UInt8)) (n off : Nat) (w : World)
    (hK : KRel w0 gd gb gs go gl gm d bv lba acc seen n w) (hacc : acc.length ≤ 200) (hn : n ≤ 10000) (acc2 : List Nat) (ha2 : acc2 = acc ++ [off]) :
    Calls Tryz.prog 13 #[.int .i64 off, .agg fidZ, .bool false, .pointer (some ⟨gs, 0, none⟩), .pointer (some ⟨go, 0, none⟩), .pointer (some ⟨gl, 0, none⟩)] w fun e w' => e = .returned (.bool true) ∧
      ∃ seen2 n', KRel w0 gd gb gs go gl gm d bv lba acc2 seen2 n' w' := by
  have hJ : JRel w.heap.size (fidA ⟨#[]⟩ false false false false false 0 0 0) w0 gd gb gs go gl gm d bv lba acc seen n (w.alloc (.cells (fidA ⟨#[]⟩ false false false false false 0 0 0) 54)) := ⟨heap_alloc_last w _, hK.step (below_alloc_new' _)⟩
  have c3 := hJ.1.cell 3 _ rfl
  have c4 := hJ.1.cell 4 _ rfl
  have HA2 := Lib.hid ha2
  have hacc2 : acc.length ≤ 65536 := by omega
  obtain ⟨v, hv, ho⟩ := hJ.2.ov
  obtain ⟨_, kl⟩ := hJ.2.cells
  have cv := cell_of_one hv
  have fv := free_of_one hv
  have hge := hJ.2.bel.size
  obtain ⟨i0, hi, hy0, hy1, hy2⟩ := info_parts info_finding
  have hal : acc2.length ≤ 201 := by rw [ha2, List.length_append]; simp; omega
  have h256 : (acc2.length : Int) < 256 := by omega
  clear ha2 hK
  go_enter Tryz.func13, Tryz.ntmps13
  go_wp2_with (first
    | (at_builtin; refine wpList_append_own _ rfl _ _ 25 rfl w0.heap.size 27 i0 (.agg #[.int .i64 0, .int .i64 0, .int .i64 0]) 3 24 Tryz.underlying25 hi hy0 hy1 hy2 rfl (by decide) _ _ _ rfl (ho.alloc _) ⟨w.heap.size + 1, 0, none⟩ 1 1 [.int .i64 306, .int .i64 lba, .int .i64 (off : Int)] rfl rfl ?_ ?_ ?_ ?_ ?_ ?_)
    | go_in)
  · have hs : (w.alloc (.cells fidZ 54)).heap.size = w.heap.size + 1 := by show (w.heap.push _).size = _; simp
    have := new_cells (w.alloc (.cells fidZ 54)) [.int .i64 306, .int .i64 lba, .int .i64 (off : Int)] 27
    rw [hs] at this
    exact this
  · intro u hu; simp at hu; rcases hu with rfl | rfl | rfl <;> rfl
  · unfold maxLen; omega
  · omega
  · exact Nat.le_trans hge (by show (w.alloc _).heap.size ≤ ((w.alloc _).heap.push _).size; simp)
  · intro v' w2 hown' hgrow _
    have hv2 := row_kept hv (by decide) ho hgrow
    have hf2 := row_kept hJ.1 (by decide) ho hgrow
    have cv2 := cell_of_one hv2
    have fv2 := free_of_one hv2
    have hfin : JRel w.heap.size (fidA ⟨#[]⟩ false false false false false 0 0 0) w0 gd gb gs go gl gm d bv lba acc2 seen n (w2.setCell ⟨go, 0, none⟩ v') := by
      rw [show acc2 = acc ++ [off] from HA2.out]
      refine ⟨(Below.heap_setCell w2 ⟨go, 0, none⟩ v' _ ?_).trans hf2, KRel.add hJ.2 hv ho (by rw [findV_snoc, List.length_append]; exact hown') hgrow⟩
      intro e
      have e' : w.heap.size = go := e
      rw [e'] at hf2
      have := hf2.symm.trans hv2
      injection this with this
      injection this with _ h5
      exact absurd h5 (by decide)
    obtain ⟨a', c', rfl⟩ := own_slice3 hown'
    obtain ⟨D, hD, hat⟩ := hfin.2.mp
    obtain ⟨ks, _⟩ := hfin.2.cells
    have k0 := hfin.1.cell 0 _ rfl
    have hput := fun (w3 : World) h1 h2 => KRel.put (w' := w3) (name := []) hfin.2 hD hat h1 h2
    have HPut := Lib.hid hput
    clear hown' hgrow hv2 hf2 hv ho hJ hput hat hfin
    go_wp2_with (first
      | (at_mapUpdate; refine wpList_mapUpdate_own _ rfl _ _ _ 48 rfl 9 4 mapLaw Tryz.underlying48 _ gm n D rfl hD (by unfold maxLen; omega) _ _ (.string []) rfl rfl (WideMaps.keyOf_string_mk Tryz.underlying9 (by decide)) _ [] (plainElem_bool Tryz.underlying4 true) ?_)
      | go_in)
    intro w3 hm3 hg3
    have hK3 := HPut.out w3 hm3 hg3
    obtain ⟨v, hv, ho⟩ := hK3.ov
    obtain ⟨a'', c'', rfl⟩ := own_slice3 ho
    have cv := cell_of_one hv
    have HK := Lib.hid hK3
    clear hK3 hv ho hm3 hg3 hD
    go_wp2_with fail
    go_ret
    exact ⟨rfl, _, _, HK.out⟩
end Go.Proofs.YtmgbbnnjbgemdaaGreatDoor

/- Law 45, directories: the program's walk over the entries. -/
namespace Go.Proofs.YtmgbbnnjbgemdaaGreatDoor
open Go.RowKit
set_option maxRecDepth 1000000
set_option maxHeartbeats 1600000
/-- What is known between two entries. -/
def NRel (w0 : World) (gd gb gs go gl gm : Nat) (d : ByteArray) (bl : List Int) (bv : Value) (lba : Int) (i : Value) (wx : World) : Prop := ∃ (at_ : Nat) (acc : List Nat) (seen : List (List UInt8)) (n : Nat), i = .int .i64 at_ ∧ at_ ≤ d.size ∧ acc.length * 40 ≤ at_ ∧ n * 40 ≤ at_ ∧
  KRel w0 gd gb gs go gl gm d bv lba acc seen n wx ∧ found d.data.toList bl = acc ++ offsAll d.data.toList bl at_ seen
/-- What is known when an entry was read. -/
def ORel (o : Option (FidS × Nat)) (w0 : World) (gd gb gs go gl gm : Nat) (d : ByteArray) (bv : Value) (lba : Int) (acc : List Nat) (seen : List (List UInt8)) (k : Nat) (s6 s7 s8 : Value) (wx : World) : Prop := ∃ (g : Nat) (vs : Array Value) (n er : Int), s6 = .pointer (some ⟨g, 0, none⟩) ∧ s7 = .int .i64 n ∧ s8 = .int .i64 er ∧ vs.size = 9 ∧ DOutZ o (.agg vs) n er ∧ FBlk g vs wx ∧ KRel w0 gd gb gs go gl gm d bv lba acc seen k wx
theorem p_desc (w0 : World) (gd gb gs go gl gm : Nat) (s : ByteArray) (a : Option Addr) (bl : List Int) (cap : Nat) (lba : Int) (w : World) (hT0 : Tabs w0) (hT : Tabs w) (hz : s.size ≤ 6000)
    (hbl : ∀ k, (h : k < bl.length) → ∃ b off, a = some ⟨b, off, none⟩ ∧ b < w0.heap.size ∧ w0.cell? ⟨b, off + k, none⟩ = some (.int .i64 bl[k]))
    (hK : KRel w0 gd gb gs go gl gm s (.slice a bl.length cap) lba [] [] 0 w) (hf0 : found s.data.toList bl = [] ++ offsAll s.data.toList bl 0 []) :
    Calls Tryz.prog 44 #[.func (.func 13) #[] #[.pointer (some ⟨gs, 0, none⟩), .pointer (some ⟨go, 0, none⟩), .pointer (some ⟨gl, 0, none⟩)], .pointer (some ⟨gd, 0, none⟩), .pointer (some ⟨gb, 0, none⟩)] w fun e w' => e = .returned (.tuple #[]) ∧
      ∃ seen n, KRel w0 gd gb gs go gl gm s (.slice a bl.length cap) lba (found s.data.toList bl) seen n w' := by
  have HBL := Lib.hid hbl
  have H0 : Hid (NRel w0 gd gb gs go gl gm s bl (.slice a bl.length cap) lba (.int .i64 0) w) := ⟨0, [], [], 0, rfl, by omega, by simp, by simp, hK, hf0⟩
  have HTb := Lib.hid hT
  have HT0 := Lib.hid hT0
  have hbelw := Lib.hid hK.bel
  clear hbl hK hf0 hT hT0
  go_enter Tryz.func44, Tryz.ntmps44
  go_wp2_with fail
  go_loopw [4] (fun i wx => NRel w0 gd gb gs go gl gm s bl (.slice a bl.length cap) lba i wx ∧ Tabs wx) (fun i _ => s.size - (intOf i).toNat)
  case atStart => exact ⟨H0.out, HTb.out⟩
  case round =>
    obtain ⟨⟨at_, acc, seen, n, rfl, hat, hacc, hnn, hK, hfnd⟩, hT⟩ := hrel
    have HFND := Lib.hid hfnd
    clear hfnd H0
    have kd := cell_of_one hK.dv
    have kb := cell_of_one hK.bb
    by_cases hlt : at_ < s.size
    · have hi : (at_ : Int) < s.size := by omega
      obtain ⟨q, hq⟩ : ∃ q : Nat, q = at_ / 2048 := ⟨_, rfl⟩
      have hq' : (at_ : Int) / 2048 = q := by omega
      by_cases hk : q < bl.length
      · have hki : (q : Int) < bl.length := by omega
        obtain ⟨b, off, rfl, hbw, hcell⟩ := HBL.out q hk
        have hc := (hK.bel.cell (by exact hbw)).trans hcell
        have hsome : bl[at_ / 2048]? = some bl[q] := by rw [← hq]; exact List.getElem?_eq_getElem hk
        have hbw2 : b < wr.heap.size := Nat.lt_of_lt_of_le hbw hK.bel.size
        have hc2 : ∀ o, (wr.drew.alloc o).cell? ⟨b, off + q, none⟩ = some (.int .i64 bl[q]) := fun o => (World.cell?_alloc_past _ _ _ hbw2).trans hc
        have hd2 : ∀ o, (wr.drew.alloc o).cell? ⟨gd, 0, none⟩ = some (.string s) := fun o => (World.cell?_alloc_past _ _ _ (Array.getElem?_eq_some_iff.1 hK.dv).1).trans kd
        have hb2 : ∀ o, (wr.drew.alloc o).cell? ⟨gb, 0, none⟩ = some (.slice (some ⟨b, off, none⟩) bl.length cap) := fun o => (World.cell?_alloc_past _ _ _ (Array.getElem?_eq_some_iff.1 hK.bb).1).trans kb
        have hgd := (Array.getElem?_eq_some_iff.1 hK.dv).1
        have hgb := (Array.getElem?_eq_some_iff.1 hK.bb).1
        have HSOME := Lib.hid hsome
        have HQ := Lib.hid hq
        clear hsome hcell hbw hq
        generalize bl[q] = bq at *
        have hx1 : (0 : Int) ≤ (at_ : Int) := by omega
        have hx2 : (at_ : Int) ≤ s.size := by omega
        have hcd : (s.extract at_ s.size).data.toList = s.data.toList.drop at_ := by rw [cut_data]; exact List.take_of_length_le (by simp)
        have hcz : (s.extract at_ s.size).size ≤ 65536 := by rw [← len_data, hcd]; simp; omega
        have HD := Lib.hid (fun (W : World) (hW : Tabs W) => p_fdecode (s.extract at_ s.size) bq W hW hcz)
        rw [hcd] at HD
        clear hcd hcz
        have hTd : Tabs wr.drew := hT.step (below_drew0' wr)
        have hTa : ∀ o, Tabs (wr.drew.alloc o) := fun o => hTd.step (below_alloc_new' o)
        go_upto_region 5 with (fail)
        go_cut [6, 7, 8] from 9 to 48 (fun s6 s7 s8 wx => ORel (fidAt (s.data.toList.drop at_) bq) w0 gd gb gs go gl gm s (.slice (some ⟨b, off, none⟩) bl.length cap) lba acc seen n s6 s7 s8 wx ∧ Tabs wx)
        case first =>
          go_region_with (first
            | (go_at_call 45; refine (HD.out _ (by first | exact hTd | exact hTa _)).mono ?_; rintro e w5 ⟨v, nn, er, rfl, ⟨⟨⟨vs, rfl, hvs, hv1⟩, hdo⟩, hzz⟩, hb5⟩; have hrun := run_storeCells_new (P := Tryz.prog) w5 54 fidZ vs (by rw [hvs]; exact fid_size) (by rw [hvs]; rfl) hv1; try (have hg5 : w5.heap[wr.heap.size]? = some (.cells fidZ 54 (0, 0)) := (hb5.block _ (by show wr.heap.size < (wr.heap.push _).size; simp)).trans (heap_alloc_last wr.drew _); have hrun2 := run_storeCells_row (P := Tryz.prog) w5 wr.heap.size _ fidZ vs hg5 (by rw [hvs]; rfl) hv1)))
          all_goals
            go_wp2_with fail
            go_meet
            case rel => first
              | (have hB5 := (below_drew0' wr).trans (hb5.mono (Nat.le_refl _)); have hB6 := hB5.trans ((below_alloc_new' (w := w5) (.cells vs 54)).mono hB5.size); exact ⟨⟨_, vs, nn, er, rfl, rfl, rfl, hvs, ⟨⟨⟨vs, rfl, hvs, hv1⟩, hdo⟩, hzz⟩, heap_alloc_last _ _, hK.step hB6⟩, hT.step hB6⟩)
              | (have hB6 := below_setRow (((below_drew0' wr).trans (below_alloc_new' (w := wr.drew) _)).trans (hb5.mono (by show wr.heap.size ≤ (wr.heap.push _).size; simp))) (Nat.le_refl _) vs; exact ⟨⟨_, vs, nn, er, rfl, rfl, rfl, hvs, ⟨⟨⟨vs, rfl, hvs, hv1⟩, hdo⟩, hzz⟩, setRow_heap _ _ _ _ _ _ hg5, hK.step hB6⟩, hT.step hB6⟩)
        case rest =>
          clear HD hK hc hc2 hd2 hb2 hT hTd hTa kd kb
          obtain ⟨⟨g, vs, nn, er, rfl, rfl, rfl, hvs, ⟨⟨_, hdo⟩, hzz⟩, hblk, hK⟩, hT⟩ := hcut
          cases hf : fidAt (s.data.toList.drop at_) bq with
          | none =>
            rw [hf] at hdo hzz
            have hne : ((er : Int) == 0) = false := by rw [beq_eq_false_iff_ne]; exact hdo
            have hne2 : ((er : Int) != 0) = true := by rw [bne_iff_ne]; exact hdo
            have hvz : vs = fidZ := by have := hzz rfl; injection this
            subst hvz
            have HX := Lib.hid (show found s.data.toList bl = acc ++ [at_] by rw [HFND.out, offsAll_bad (by rw [len_data]; exact hlt) HSOME.out hf])
            have HS := Lib.hid (p_stepbad w0 gd gb gs go gl gm s _ lba acc seen n at_ _ hK (by omega) (by omega) _ HX.out)
            clear hdo hzz hf hK hT
            go_wp2_with (first
              | (refine wpList_load_row rfl _ _ rfl g _ fidZ _ rfl hblk Tryz.underlying54 rfl 9 fid_size rfl ?_)
              | fail)
            refine HS.out.mono ?_
            rintro e w6 ⟨rfl, seen2, n2, hK6⟩
            go_wp2
            (try simp only [Exit.inBlock, Exit.then])
            refine bodyPost_ret (results_none rfl _ _ _) rfl ?_
            exact ⟨rfl, seen2, n2, hK6⟩
          | some fm =>
            obtain ⟨f, m⟩ := fm
            rw [hf] at hdo
            have h40 := fidAt_size hf
            have hm6 : m ≤ 6000 := by have := h40.2; rw [List.length_drop, len_data] at this; omega
            have HO := Lib.hid (offsAll_fid (seen := seen) (by rw [len_data]; exact hlt) HSOME.out hf)
            obtain ⟨⟨t, hvt, ht⟩, rfl, rfl⟩ := hdo
            have hv9 : vs = fidA t f.hidden f.directory f.deleted f.parent f.metadata f.block f.part f.unique := by injection hvt
            clear hvt hvs hzz
            subst hv9
            obtain ⟨hcc, hcl⟩ := fidAt_chars hf
            have htl : t.size ≤ 65536 := by rw [← len_data, ht, FidS.name]; have := (encs_len f.cs).2; omega
            obtain ⟨acc2, ha2⟩ : ∃ acc2, acc2 = acc ++ (if wrong f at_ seen then [at_] else []) := ⟨_, rfl⟩
            obtain ⟨seen2, hs2⟩ : ∃ seen2, seen2 = (if !f.deleted && !f.parent then f.name :: seen else seen) := ⟨_, rfl⟩
            have HS := Lib.hid (p_step w0 gd gb gs go gl gm s _ lba acc seen n at_ t f.cs f.hidden f.directory f.deleted f.parent f.metadata f.block f.part f.unique _ hK hT ht hcc htl (by omega) (by omega) acc2 ha2 seen2 hs2)
            unfold fidV at HS
            have hal : acc2.length ≤ acc.length + 1 := by rw [ha2, List.length_append]; split <;> simp
            have HA2 := Lib.hid ha2
            have HS2 := Lib.hid hs2
            have hKb := hK.bel
            have HTw := Lib.hid hT
            clear ht hcc hcl htl hf ha2 hs2 hK hT
            go_wp2_with (first
              | (refine wpList_load_row rfl _ _ rfl g _ (fidA t f.hidden f.directory f.deleted f.parent f.metadata f.block f.part f.unique) _ rfl hblk Tryz.underlying54 rfl 9 fid_size rfl ?_)
              | fail)
            refine HS.out.mono ?_
            rintro e w6 ⟨rfl, n2, hn2, hK6⟩
            clear hblk HS
            go_wp2_with fail
            go_roundw
            case rel =>
              have hm2 := h40.2
              rw [List.length_drop, len_data] at hm2
              exact ⟨⟨at_ + m, acc2, seen2, n2, by go_num, by omega, by omega, by omega, hK6, by rw [HFND.out, HO.out, HA2.out, HS2.out, List.append_assoc]⟩, HT0.out.step hK6.bel⟩
            case measure => have := h40.1; simp [intOf]; omega
      · have hnb : bl[at_ / 2048]? = none := by rw [← hq]; exact List.getElem?_eq_none (by omega)
        have hki : (bl.length : Int) ≤ q := by omega
        have HX := Lib.hid (show found s.data.toList bl = acc ++ [at_] by rw [HFND.out, offsAll_noblock (by rw [len_data]; exact hlt) hnb])
        have HS := Lib.hid (p_stepbad w0 gd gb gs go gl gm s _ lba acc seen n at_ _ hK (by omega) (by omega) _ HX.out)
        clear hnb hq hk hK hT
        go_wp2_with fail
        refine HS.out.mono ?_
        rintro e w6 ⟨rfl, seen2, n2, hK6⟩
        go_wp2
        (try simp only [Exit.inBlock, Exit.then])
        refine bodyPost_ret (results_none rfl _ _ _) rfl ?_
        exact ⟨rfl, seen2, n2, hK6⟩
    · have hat' : at_ = s.size := by omega
      have HX := Lib.hid (show found s.data.toList bl = acc by rw [HFND.out, offsAll_end (by rw [len_data]; omega), List.append_nil])
      have HK := Lib.hid hK
      subst hat'
      clear hK hT
      go_wp2
      go_end0
      exact ⟨rfl, seen, n, by rw [HX.out]; exact HK.out⟩
end Go.Proofs.YtmgbbnnjbgemdaaGreatDoor

/- Law 45, directories: the program's CheckDirectory. -/
namespace Go.Proofs.YtmgbbnnjbgemdaaGreatDoor
open Go.RowKit
set_option maxRecDepth 1000000
set_option maxHeartbeats 1600000
theorem p_descriptors (s : ByteArray) (a : Option Addr) (m c : Nat) (w : World) :
    Calls Tryz.prog 12 #[.string s, .slice a m c] w fun e w' => e = .returned (.func (.func 44) #[] #[.pointer (some ⟨w.heap.size, 0, none⟩), .pointer (some ⟨w.heap.size + 1, 0, none⟩)]) ∧ w' = (w.alloc (.cells #[.string s] 9)).alloc (.cells #[.slice a m c] 22) := by
  have hmf : ∀ (fn : Fn) (first cap : Array Value) (w : World), (Instr.makeFunc fn first cap).run Tryz.prog w = .ok (.func fn first cap) w := fun _ _ _ _ => rfl
  go_enter Tryz.func12, Tryz.ntmps12
  go_wp2
  go_ret
  exact ⟨rfl, rfl⟩
theorem at0 {W : World} {g : Nat} {o : Obj} (h : g = W.heap.size) : (W.alloc o).heap[g]? = some o := by subst h; exact heap_alloc_last W o
theorem up1 {W : World} {g : Nat} {x o : Obj} (h : W.heap[g]? = some x) : (W.alloc o).heap[g]? = some x := (Below.heap_alloc W o g (Array.getElem?_eq_some_iff.1 h).1).trans h
theorem KRel.new (w : World) (s : ByteArray) (bv : Value) (lba : Int) : KRel w (w.heap.size + 4) (w.heap.size + 5) (w.heap.size + 3) (w.heap.size + 1) w.heap.size (w.heap.size + 2) s bv lba [] [] 0
    ((((((w.alloc (.cells #[.int .i64 lba] 3)).alloc (.cells #[.slice none 0 0] 25)).alloc (.map #[] 0)).alloc (.cells #[.map (some (w.heap.size + 2))] 48)).alloc (.cells #[.string s] 9)).alloc (.cells #[bv] 22)) := by
  have hz : ∀ (w : World) (o : Obj), (w.alloc o).heap.size = w.heap.size + 1 := fun w o => by show (w.heap.push _).size = _; simp
  have hbel : Below w.heap.size w ((((((w.alloc (.cells #[.int .i64 lba] 3)).alloc (.cells #[.slice none 0 0] 25)).alloc (.map #[] 0)).alloc (.cells #[.map (some (w.heap.size + 2))] 48)).alloc (.cells #[.string s] 9)).alloc (.cells #[bv] 22)) :=
    ((((((Below.refl _ _).alloc (Nat.le_refl _) _).alloc (by rw [hz]; omega) _).alloc (by rw [hz, hz]; omega) _).alloc (by rw [hz, hz, hz]; omega) _).alloc (by rw [hz, hz, hz, hz]; omega) _).alloc (by rw [hz, hz, hz, hz, hz]; omega) _
  have hmap := SetAt.new ((w.alloc (.cells #[.int .i64 lba] 3)).alloc (.cells #[.slice none 0 0] 25))
  rw [hz, hz] at hmap
  exact ⟨up1 (at0 (by rw [hz, hz, hz, hz])), at0 (by rw [hz, hz, hz, hz, hz]), up1 (up1 (at0 (by rw [hz, hz, hz]))), up1 (up1 (up1 (up1 (up1 (at0 rfl))))), ⟨.slice none 0 0, up1 (up1 (up1 (up1 (at0 (by rw [hz]))))), World.ownsRow_nil _ _ _ _⟩,
    ((hmap.step (below_alloc_new' _)).step (below_alloc_new' _)).step (below_alloc_new' _), ⟨by omega, by omega⟩, hbel⟩
theorem p_checkdir (s : ByteArray) (a : Option Addr) (bl : List Int) (cap : Nat) (lba : Int) (w : World) (hT : Tabs w) (hz : s.size ≤ 6000)
    (hbl : ∀ k, (h : k < bl.length) → ∃ b off, a = some ⟨b, off, none⟩ ∧ b < w.heap.size ∧ w.cell? ⟨b, off + k, none⟩ = some (.int .i64 bl[k])) :
    Calls Tryz.prog 6 #[.string s, .slice a bl.length cap, .int .i64 lba] w fun e w' => ∃ v, e = .returned v ∧ w'.ownsRow w.heap.size 27 3 v (found s.data.toList bl).length (findV lba (found s.data.toList bl)) ∧ Below w.heap.size w w' := by
  by_cases h0 : s.size = 0
  · have hd : s.data.toList = [] := List.length_eq_zero_iff.1 (by rw [len_data]; exact h0)
    have he : s.toList.isEmpty = true := by rw [ByteArray.toList_eq, hd]; rfl
    have HF := Lib.hid (show found s.data.toList bl = [0] by unfold found; rw [hd]; rfl)
    have hb : Below w.heap.size w ((w.alloc (.cells #[.int .i64 lba] 3)).alloc (.cells #[.int .i64 306, .int .i64 lba, .int .i64 0] 27)) := ((Below.refl _ _).alloc (Nat.le_refl _) _).alloc (by show w.heap.size ≤ (w.heap.push _).size; simp) _
    have hsz : (w.alloc (.cells #[.int .i64 lba] 3)).heap.size = w.heap.size + 1 := by show (w.heap.push _).size = _; simp
    have own0 : ((w.alloc (.cells #[.int .i64 lba] 3)).alloc (.cells #[.int .i64 306, .int .i64 lba, .int .i64 0] 27)).ownsRow w.heap.size 27 3 (.slice (some ⟨w.heap.size + 1, 0, none⟩) 1 1) 1 (findV lba [0]) := by
      rw [← hsz]; exact World.ownsRow_lit _ _ 1 (by rw [hsz]; omega) (by decide) rfl
    have HO := Lib.hid own0
    clear hd hbl hT own0 hsz
    go_enter Tryz.func6, Tryz.ntmps6
    go_wp2
    go_ret
    exact ⟨_, rfl, by rw [HF.out]; exact HO.out, hb⟩
  · have he := nonempty_str (show 0 < s.size by omega)
    have hfd : found s.data.toList bl = [] ++ offsAll s.data.toList bl 0 [] := by
      unfold found
      have : s.data.toList.isEmpty = false := by rw [← ByteArray.toList_eq]; exact he
      rw [this]; rfl
    have hK0 := KRel.new w s (.slice a bl.length cap) lba
    have HP := Lib.hid (p_desc w _ _ _ _ _ _ s a bl cap lba _ hT (hT.step hK0.bel) hz hbl hK0 hfd)
    have hmm := @run_makeMap Tryz.prog
    have hmf : ∀ (fn : Fn) (first cap : Array Value) (w : World), (Instr.makeFunc fn first cap).run Tryz.prog w = .ok (.func fn first cap) w := fun _ _ _ _ => rfl
    clear hK0 hfd hbl hT
    go_enter Tryz.func6, Tryz.ntmps6
    go_wp2_with fail
    refine (p_descriptors _ _ _ _ _).mono ?_
    rintro e w1 ⟨rfl, rfl⟩
    go_wp2_with fail
    refine HP.out.mono ?_
    rintro e w2 ⟨rfl, seen, n, hK2⟩
    obtain ⟨v, hv, ho⟩ := hK2.ov
    have cv := cell_of_one hv
    have bel := hK2.bel
    clear hK2 hv HP
    go_wp2
    go_ret
    exact ⟨_, rfl, ho, bel⟩
end Go.Proofs.YtmgbbnnjbgemdaaGreatDoor

/- Law 45, directories: two equal lists of findings. -/
namespace Go.Proofs.YtmgbbnnjbgemdaaGreatDoor
open Go.RowKit
set_option maxRecDepth 1000000
set_option maxHeartbeats 1600000
theorem findV_get (lba : Int) : ∀ (l : List Nat) (i k : Nat) (hi : i < l.length) (_ : k < 3), (findV lba l)[i * 3 + k]? = ([.int .i64 306, .int .i64 lba, .int .i64 ((l[i] : Nat) : Int)] : List Value)[k]?
  | x :: l, 0, k, _, hk => by
    rw [findV, List.flatMap_cons, Nat.zero_mul, Nat.zero_add, List.getElem?_append_left (by show k < 3; exact hk)]; rfl
  | x :: l, i + 1, k, hi, hk => by
    have := findV_get lba l i k (by simpa using hi) hk
    rw [findV, List.flatMap_cons, List.getElem?_append_right (by show 3 ≤ _; omega)]
    have e : (i + 1) * 3 + k - ([.int .i64 306, .int .i64 lba, .int .i64 ((x : Nat) : Int)] : List Value).length = i * 3 + k := by show (i + 1) * 3 + k - 3 = _; omega
    rw [e]
    exact this
theorem find_cells {w : World} {B : Nat} {lba : Int} {v : Value} {l : List Nat} (h : w.ownsRow B 27 3 v l.length (findV lba l)) (h0 : l ≠ []) :
    ∃ g cap, v = .slice (some ⟨g, 0, none⟩) l.length cap ∧ g < w.heap.size ∧ ∀ k, (hk : k < l.length) → w.cell? ⟨g, k * 3, none⟩ = some (.int .i64 306) ∧ w.cell? ⟨g, k * 3 + 1, none⟩ = some (.int .i64 lba) ∧ w.cell? ⟨g, k * 3 + 2, none⟩ = some (.int .i64 (l[k] : Nat)) := by
  rcases h.2 with ⟨rfl, h2⟩ | ⟨g, cap, cur, rfl, _⟩
  · exact absurd (List.length_eq_zero_iff.1 h2) h0
  · refine ⟨g, cap, rfl, (h.lt g rfl).2, fun k hk => ⟨?_, ?_, ?_⟩⟩
    · exact (h.cellAt (k * 3 + 0) (by omega)).trans (findV_get lba l k 0 hk (by omega))
    · exact (h.cellAt (k * 3 + 1) (by omega)).trans (findV_get lba l k 1 hk (by omega))
    · exact (h.cellAt (k * 3 + 2) (by omega)).trans (findV_get lba l k 2 hk (by omega))
theorem p_equal (B1 B2 : Nat) (lba : Int) (l : List Nat) (v1 v2 : Value) (w : World) (h1 : w.ownsRow B1 27 3 v1 l.length (findV lba l)) (h2 : w.ownsRow B2 27 3 v2 l.length (findV lba l)) (hl : l.length ≤ 65536) :
    Calls Tryz.prog 5 #[v1, v2] w fun e w' => e = .returned (.bool true) ∧ Below w.heap.size w w' := by
  by_cases h0 : l = []
  · subst h0
    obtain ⟨a1, c1, rfl⟩ := own_slice3 h1
    obtain ⟨a2, c2, rfl⟩ := own_slice3 h2
    clear h1 h2
    go_enter Tryz.func5, Tryz.ntmps5
    go_wp2
    refine wp_loop_rounds 1 ?_
    rw [rounds_succ]
    go_wp2
    go_ret
    exact ⟨rfl, Below.refl _ _⟩
  · obtain ⟨g1, c1, rfl, hg1, hc1⟩ := find_cells h1 h0
    obtain ⟨g2, c2, rfl, hg2, hc2⟩ := find_cells h2 h0
    have HC1 := Lib.hid hc1
    have HC2 := Lib.hid hc2
    clear h1 h2 h0 hc1 hc2
    go_enter Tryz.func5, Tryz.ntmps5
    go_wp2
    go_loopw [13] (fun i wr => ∃ k : Nat, k ≤ l.length ∧ i = .int .i64 k ∧ Below w.heap.size w wr) (fun i _ => l.length - (intOf i).toNat)
    case atStart => exact ⟨0, Nat.zero_le _, rfl, Below.refl _ _⟩
    case round =>
      obtain ⟨k, hk, rfl, hbw⟩ := hrel
      by_cases hlt : k < l.length
      · obtain ⟨p0, p1, p2⟩ := HC1.out k hlt
        obtain ⟨q0, q1, q2⟩ := HC2.out k hlt
        have p0' := (hbw.cell (by exact hg1)).trans p0
        have p1' := (hbw.cell (by exact hg1)).trans p1
        have p2' := (hbw.cell (by exact hg1)).trans p2
        have q0' := (hbw.cell (by exact hg2)).trans q0
        have q1' := (hbw.cell (by exact hg2)).trans q1
        have q2' := (hbw.cell (by exact hg2)).trans q2
        clear p0 p1 p2 q0 q1 q2
        have hi : (k : Int) < l.length := by omega
        generalize l[k] = x at *
        go_wp2_with fail
        go_quiet (fail)
        go_wp2
        go_roundw
        case rel => exact ⟨k + 1, by omega, by first | rfl | go_num, below_drewN hbw _⟩
        case measure => simp [intOf]; omega
      · have hk' : k = l.length := by omega
        subst hk'
        go_wp2
        go_ret
        exact ⟨rfl, hbw⟩
end Go.Proofs.YtmgbbnnjbgemdaaGreatDoor
