/- Law 58, VerifierLines: a start that fits the row: its world by the kit's function, its closed facts one by one; the type of errors.New's values is found by its name. Conditions: none. -/
import Derived.Test.YtdjdiiibcocmpaaGreatDoorRows
import Derived.Test.YtdjdiiibcocmpaaGreatDoorJy
import Derived.Lay
import Derived.ClosedOfChecked
import Derived.LaidLaws
import Derived.KernelRfl
namespace Go.Proofs.YtdjdiiibcocmpaaGreatDoor
open Go
/-- A row of the type table that bears no such name. -/
def rowNo (P : Program) (tail : String) (i : TypeInfo) : Bool := match i.desc with
  | TypeDesc.named n _ => n != "*" ++ tail
  | .pointer e => (match (P.info? e).map (·.desc) with
    | some (TypeDesc.named m _) => m != tail
    | _ => P.typeName? 2 e != some tail)
  | .bool | .int _ | .float _ | .string => i.str != "*" ++ tail
  | _ => true
theorem rowNo_named {P : Program} {d t : Nat} {i : TypeInfo} {n s : String} {u : TypeId} (hi : P.info? t = some i) (hd : i.desc = .named n u) (h : P.typeName? (d + 1) t = some s) : n = s := by
  unfold Program.typeName? at h
  rw [hi] at h
  simp only [hd] at h
  split at h
  · exact Option.some.inj h
  · cases h
theorem rowNo_spec {P : Program} {tail : String} {t : Nat} {i : TypeInfo} (hi : P.info? t = some i) (h : rowNo P tail i = true) : P.typeName? 3 t ≠ some ("*" ++ tail) := by
  intro hn
  unfold rowNo at h
  cases hd : i.desc with
  | named n u =>
    rw [hd] at h
    have := rowNo_named hi hd hn
    simp [this] at h
  | pointer e =>
    rw [hd] at h
    unfold Program.typeName? at hn
    rw [hi] at hn
    simp only [hd] at hn
    cases hq : P.typeName? 2 e with
    | none => rw [hq] at hn; cases hn
    | some s =>
      rw [hq] at hn
      have hs : s = tail := (String.append_right_inj "*").mp (Option.some.inj hn)
      subst hs
      cases hj : P.info? e with
      | none =>
        simp only [hj, Option.map_none, hq] at h
        simp at h
      | some j =>
        cases hjd : j.desc with
        | named m u =>
          have := rowNo_named hj hjd hq
          simp [hj, hjd, this] at h
        | _ => simp [hj, hjd, hq] at h
  | bool => rw [hd] at h; unfold Program.typeName? at hn; rw [hi] at hn; simp only [hd] at hn; split at hn <;> simp_all
  | int k => rw [hd] at h; unfold Program.typeName? at hn; rw [hi] at hn; simp only [hd] at hn; split at hn <;> simp_all
  | float k => rw [hd] at h; unfold Program.typeName? at hn; rw [hi] at hn; simp only [hd] at hn; split at hn <;> simp_all
  | string => rw [hd] at h; unfold Program.typeName? at hn; rw [hi] at hn; simp only [hd] at hn; split at hn <;> simp_all
  | _ => unfold Program.typeName? at hn; rw [hi] at hn; simp only [hd] at hn; cases hn
theorem part_no {P : Program} {tail : String} {a k v : Nat} (h : ((P.types.toList.drop a).take k).all (rowNo P tail) = true) (h1 : a ≤ v) (h2 : v < a + k) {i : TypeInfo} (hi : P.types[v]? = some i) : rowNo P tail i = true := by
  refine List.all_eq_true.1 h i ?_
  refine List.mem_of_getElem? (i := v - a) ?_
  rw [List.getElem?_take, if_pos (by omega), List.getElem?_drop]
  have : a + (v - a) = v := by omega
  rw [this, Array.getElem?_toList]
  exact hi
theorem types_size : Tryz.prog.types.size = 1047 := by kernel_rfl
theorem no0 : ((Tryz.prog.types.toList.drop 0).take 170).all (rowNo Tryz.prog "errors.errorString") = true := by kernel_rfl
theorem no1 : ((Tryz.prog.types.toList.drop 170).take 170).all (rowNo Tryz.prog "errors.errorString") = true := by kernel_rfl
theorem no2 : ((Tryz.prog.types.toList.drop 340).take 170).all (rowNo Tryz.prog "errors.errorString") = true := by kernel_rfl
theorem no3 : ((Tryz.prog.types.toList.drop 510).take 170).all (rowNo Tryz.prog "errors.errorString") = true := by kernel_rfl
theorem no4 : ((Tryz.prog.types.toList.drop 680).take 170).all (rowNo Tryz.prog "errors.errorString") = true := by kernel_rfl
theorem no5 : ((Tryz.prog.types.toList.drop 850).take 152).all (rowNo Tryz.prog "errors.errorString") = true := by kernel_rfl
theorem no_all (v : Nat) (h : v < 1002) {i : TypeInfo} (hi : Tryz.prog.types[v]? = some i) : rowNo Tryz.prog "errors.errorString" i = true := by
  rcases Nat.lt_or_ge v 170 with h0 | h0
  · exact part_no no0 (by omega) (by omega) hi
  rcases Nat.lt_or_ge v 340 with h1 | h1
  · exact part_no no1 (by omega) (by omega) hi
  rcases Nat.lt_or_ge v 510 with h2 | h2
  · exact part_no no2 (by omega) (by omega) hi
  rcases Nat.lt_or_ge v 680 with h3 | h3
  · exact part_no no3 (by omega) (by omega) hi
  rcases Nat.lt_or_ge v 850 with h4 | h4
  · exact part_no no4 (by omega) (by omega) hi
  exact part_no no5 (by omega) (by omega) hi
theorem name_err : (Tryz.prog.typeName? 3 1002 == some "*errors.errorString") = true := by kernel_rfl
theorem star_err : ("*" ++ "errors.errorString" : String) = "*errors.errorString" := by decide
theorem find_in (P : Program) (tail name : String) (n k : Nat) (hs : P.types.size = n) (hn : "*" ++ tail = name) (hk : k < n) (h1 : (P.typeName? 3 k == some name) = true) (h2 : ∀ v, v < k → ∀ i, P.types[v]? = some i → rowNo P tail i = true) :
    ((List.range P.types.size).find? fun u => P.typeName? 3 u == some name) = some k := by
  rw [List.find?_range_eq_some]
  refine ⟨h1, List.mem_range.2 (by rw [hs]; exact hk), fun v hv => ?_⟩
  have hvs : v < P.types.size := by rw [hs]; omega
  obtain ⟨i, hi⟩ : ∃ i, P.types[v]? = some i := ⟨_, Array.getElem?_eq_getElem hvs⟩
  have hno := rowNo_spec ((Go.ClosedOfChecked.info_lt hvs).trans hi) (h2 v hv i hi)
  rw [hn] at hno
  simpa using hno
theorem find_err : ((List.range Tryz.prog.types.size).find? fun u => Tryz.prog.typeName? 3 u == some "*errors.errorString") = some 1002 :=
  find_in Tryz.prog "errors.errorString" "*errors.errorString" 1047 _ types_size star_err (by omega) name_err fun v hv i hi => no_all v hv hi
theorem lay_iface (P : Program) (t n u : Nat) (name : String) (d : DataW Unit) (x : List Value × List Obj) (v : Value) (ht : ∃ ms, P.underlying t = some (.interface ms)) (hf : ((List.range P.types.size).find? fun u => P.typeName? 3 u == some name) = some u)
    (hd : d.lay P u n = some x) (hp : Lay.pack P u x.1 = some v) : (DataW.iface name d).lay P t n = some ([.iface u v], x.2) := by
  obtain ⟨ms, ht⟩ := ht
  unfold DataW.lay
  rw [ht, hf]
  simp only [hd, hp]
theorem lay_step {P : Program} {n g : Nat} {name : String} {d : DataW Unit} {r : List (String × DataW Unit)} {t : TypeId} {x : List Value × List Obj} {z : List (Nat × List Value) × List Obj} (hg : P.globalNamed name = some g) (ht : (P.globals[g]?).map (·.type) = some t)
    (hl : d.lay P t n = some x) (hr : Lay.layList P (n + x.2.length) r = some z) : Lay.layList P n ((name, d) :: r) = some ((g, x.1) :: z.1, x.2 ++ z.2) := by
  cases hgl : P.globals[g]? with
  | none => rw [hgl] at ht; cases ht
  | some gl =>
    rw [hgl] at ht
    injection ht with ht
    unfold Lay.layList
    simp only [hg, hgl, ht, hl, hr]
def tabOf (P : Program) (d : DataW Unit) (t : TypeId) : List Value := ((d.lay P t 0).getD ([], [])).1
noncomputable def tab0 : List Value := tabOf Tryz.prog Rows.laid_math_bits_deBruijn32tab 963
noncomputable def tab1 : List Value := tabOf Tryz.prog Rows.laid_math_bits_deBruijn64tab 964
noncomputable def tab2 : List Value := tabOf Tryz.prog Rows.laid_internal_strconv_uint64pow10 779
noncomputable def tab3 : List Value := tabOf Tryz.prog Rows.laid_unicode_utf8_acceptRanges 1008
noncomputable def tab6 : List Value := tabOf Tryz.prog Rows.laid_unicode_utf8_first 1005
theorem layT0 (n : Nat) : (Rows.laid_math_bits_deBruijn32tab : DataW Unit).lay Tryz.prog 963 n = some (tab0, []) := by kernel_rfl
theorem layT1 (n : Nat) : (Rows.laid_math_bits_deBruijn64tab : DataW Unit).lay Tryz.prog 964 n = some (tab1, []) := by kernel_rfl
theorem layT2 (n : Nat) : (Rows.laid_internal_strconv_uint64pow10 : DataW Unit).lay Tryz.prog 779 n = some (tab2, []) := by kernel_rfl
theorem layT3 (n : Nat) : (Rows.laid_unicode_utf8_acceptRanges : DataW Unit).lay Tryz.prog 1008 n = some (tab3, []) := by kernel_rfl
theorem layT6 (n : Nat) : (Rows.laid_unicode_utf8_first : DataW Unit).lay Tryz.prog 1005 n = some (tab6, []) := by kernel_rfl
def rangeB : List UInt8 := [118, 97, 108, 117, 101, 32, 111, 117, 116, 32, 111, 102, 32, 114, 97, 110, 103, 101]
def syntaxB : List UInt8 := [105, 110, 118, 97, 108, 105, 100, 32, 115, 121, 110, 116, 97, 120]
def errD (s : List UInt8) : DataW Unit := .iface "*errors.errorString" (.ptr (.agg [.lit (.string s)]))
def errV (n : Nat) : Value := .pointer (some ⟨n, 0, none⟩)
def errO (s : List UInt8) : Obj := .cells #[.string ⟨s.toArray⟩] 1004
theorem layP4 (n : Nat) : (DataW.ptr (.agg [.lit (.string rangeB)]) : DataW Unit).lay Tryz.prog 1002 n = some ([errV n], [errO rangeB]) := by kernel_rfl
theorem layP5 (n : Nat) : (DataW.ptr (.agg [.lit (.string syntaxB)]) : DataW Unit).lay Tryz.prog 1002 n = some ([errV n], [errO syntaxB]) := by kernel_rfl
theorem packE (n : Nat) : Lay.pack Tryz.prog 1002 [errV n] = some (errV n) := by kernel_rfl
theorem errU : ∃ ms, Tryz.prog.underlying 664 = some (.interface ms) := Exists.intro (p := fun ms => Tryz.prog.underlying 664 = some (TypeDesc.interface ms)) _ Tryz.underlying664
theorem layT4 (n : Nat) : (errD rangeB).lay Tryz.prog 664 n = some ([.iface 1002 (errV n)], [errO rangeB]) := lay_iface _ _ _ _ _ _ _ _ errU find_err (layP4 n) (packE n)
theorem layT5 (n : Nat) : (errD syntaxB).lay Tryz.prog 664 n = some ([.iface 1002 (errV n)], [errO syntaxB]) := lay_iface _ _ _ _ _ _ _ _ errU find_err (layP5 n) (packE n)
noncomputable def layY (n : Nat) : List (Nat × List Value) × List Obj := ([(2, tab0), (3, tab1), (0, tab2), (7, tab3), (5, [.iface 1002 (errV n)]), (4, [.iface 1002 (errV (n + 1))]), (6, tab6)], [errO rangeB, errO syntaxB])
theorem lay_step0 {P : Program} {n g : Nat} {name : String} {d : DataW Unit} {r : List (String × DataW Unit)} {t : TypeId} {c : List Value} {a : List (Nat × List Value)} {b : List Obj} (hg : P.globalNamed name = some g) (ht : (P.globals[g]?).map (·.type) = some t)
    (hl : d.lay P t n = some (c, [])) (hr : Lay.layList P n r = some (a, b)) : Lay.layList P n ((name, d) :: r) = some ((g, c) :: a, b) := by
  have := lay_step hg ht hl (z := (a, b)) (by simpa using hr)
  simpa using this
theorem lay_step1 {P : Program} {n g : Nat} {name : String} {d : DataW Unit} {r : List (String × DataW Unit)} {t : TypeId} {c : List Value} {o : Obj} {a : List (Nat × List Value)} {b : List Obj} (hg : P.globalNamed name = some g) (ht : (P.globals[g]?).map (·.type) = some t)
    (hl : d.lay P t n = some (c, [o])) (hr : Lay.layList P (n + 1) r = some (a, b)) : Lay.layList P n ((name, d) :: r) = some ((g, c) :: a, o :: b) := by
  have := lay_step hg ht hl (z := (a, b)) (by simpa using hr)
  simpa using this
theorem gN0 : Tryz.prog.globalNamed "math/bits.deBruijn32tab" = some 2 := by kernel_rfl
theorem gT0 : (Tryz.prog.globals[2]?).map (·.type) = some 963 := by kernel_rfl
theorem gN1 : Tryz.prog.globalNamed "math/bits.deBruijn64tab" = some 3 := by kernel_rfl
theorem gT1 : (Tryz.prog.globals[3]?).map (·.type) = some 964 := by kernel_rfl
theorem gN2 : Tryz.prog.globalNamed "internal/strconv.uint64pow10" = some 0 := by kernel_rfl
theorem gT2 : (Tryz.prog.globals[0]?).map (·.type) = some 779 := by kernel_rfl
theorem gN3 : Tryz.prog.globalNamed "unicode/utf8.acceptRanges" = some 7 := by kernel_rfl
theorem gT3 : (Tryz.prog.globals[7]?).map (·.type) = some 1008 := by kernel_rfl
theorem gN4 : Tryz.prog.globalNamed "strconv.ErrRange" = some 5 := by kernel_rfl
theorem gT4 : (Tryz.prog.globals[5]?).map (·.type) = some 664 := by kernel_rfl
theorem gN5 : Tryz.prog.globalNamed "strconv.ErrSyntax" = some 4 := by kernel_rfl
theorem gT5 : (Tryz.prog.globals[4]?).map (·.type) = some 664 := by kernel_rfl
theorem gN6 : Tryz.prog.globalNamed "unicode/utf8.first" = some 6 := by kernel_rfl
theorem gT6 : (Tryz.prog.globals[6]?).map (·.type) = some 1005 := by kernel_rfl
def ent6 : List (String × DataW Unit) := [("unicode/utf8.first", Rows.laid_unicode_utf8_first)]
def ent5 : List (String × DataW Unit) := ("strconv.ErrSyntax", errD syntaxB) :: ent6
def ent4 : List (String × DataW Unit) := ("strconv.ErrRange", errD rangeB) :: ent5
def ent3 : List (String × DataW Unit) := ("unicode/utf8.acceptRanges", Rows.laid_unicode_utf8_acceptRanges) :: ent4
def ent2 : List (String × DataW Unit) := ("internal/strconv.uint64pow10", Rows.laid_internal_strconv_uint64pow10) :: ent3
def ent1 : List (String × DataW Unit) := ("math/bits.deBruijn64tab", Rows.laid_math_bits_deBruijn64tab) :: ent2
def ent0 : List (String × DataW Unit) := ("math/bits.deBruijn32tab", Rows.laid_math_bits_deBruijn32tab) :: ent1
theorem layL6 (n : Nat) : Lay.layList Tryz.prog (n + 1 + 1) ent6 = some ([(6, tab6)], []) := lay_step0 gN6 gT6 (layT6 _) rfl
theorem layL5 (n : Nat) : Lay.layList Tryz.prog (n + 1) ent5 = some ([(4, [.iface 1002 (errV (n + 1))]), (6, tab6)], [errO syntaxB]) := lay_step1 gN5 gT5 (layT5 _) (layL6 n)
theorem layL4 (n : Nat) : Lay.layList Tryz.prog n ent4 = some ([(5, [.iface 1002 (errV n)]), (4, [.iface 1002 (errV (n + 1))]), (6, tab6)], [errO rangeB, errO syntaxB]) := lay_step1 gN4 gT4 (layT4 _) (layL5 n)
theorem layL3 (n : Nat) : Lay.layList Tryz.prog n ent3 = some ([(7, tab3), (5, [.iface 1002 (errV n)]), (4, [.iface 1002 (errV (n + 1))]), (6, tab6)], [errO rangeB, errO syntaxB]) := lay_step0 gN3 gT3 (layT3 _) (layL4 n)
theorem layL2 (n : Nat) : Lay.layList Tryz.prog n ent2 = some ([(0, tab2), (7, tab3), (5, [.iface 1002 (errV n)]), (4, [.iface 1002 (errV (n + 1))]), (6, tab6)], [errO rangeB, errO syntaxB]) := lay_step0 gN2 gT2 (layT2 _) (layL3 n)
theorem layL1 (n : Nat) : Lay.layList Tryz.prog n ent1 = some ([(3, tab1), (0, tab2), (7, tab3), (5, [.iface 1002 (errV n)]), (4, [.iface 1002 (errV (n + 1))]), (6, tab6)], [errO rangeB, errO syntaxB]) := lay_step0 gN1 gT1 (layT1 _) (layL2 n)
theorem layL0 (n : Nat) : Lay.layList Tryz.prog n ent0 = some ([(2, tab0), (3, tab1), (0, tab2), (7, tab3), (5, [.iface 1002 (errV n)]), (4, [.iface 1002 (errV (n + 1))]), (6, tab6)], [errO rangeB, errO syntaxB]) := lay_step0 gN0 gT0 (layT0 _) (layL1 n)
theorem ent_eq : Rows.verifierLinesRow.laid = ent0 := rfl
theorem layL (n : Nat) : Lay.layList Tryz.prog n Rows.verifierLinesRow.laid = some (layY n) := by
  rw [ent_eq]
  exact layL0 n
theorem layVars_eq {P : Program} {w : World} {l : List (String × DataW Unit)} {y : List (Nat × List Value) × List Obj} (h : Lay.layList P w.heap.size l = some y) : World.layVars P w l = { w with heap := ⟨Lay.setRows w.heap.toList y.1 ++ y.2⟩ } := by
  unfold World.layVars
  rw [h]
noncomputable def wH (os : Os) : World := World.holding Tryz.prog os ⟨#[], #[], []⟩
/-- The start: the listed variables laid, and nothing else. -/
noncomputable def wX (os : Os) : World := { wH os with heap := ⟨Lay.setRows (wH os).heap.toList (layY (wH os).heap.size).1 ++ (layY (wH os).heap.size).2⟩ }
theorem laidAll_eq (os : Os) : World.laidAll Tryz.prog os Rows.verifierLinesRow.laid = wX os := by
  unfold World.laidAll wX
  exact layVars_eq (w := wH os) (layL _)
theorem fits_of {P : Program} {w : World} {l : List (String × DataW Unit)} {y : List (Nat × List Value) × List Obj} (gs : List Nat) (h : Lay.layList P w.heap.size l = some y) (hg : y.1.map (·.1) = gs) (h1 : gs.Nodup) (h2 : (gs.all fun g => Lay.isRow w.heap.toList[g]?) = true) : w.layFits P l [] = true := by
  unfold World.layFits
  rw [h]
  simp only [hg, h1, decide_true, Bool.true_and, List.all_nil, Bool.and_true, List.contains_nil, Bool.not_false]
  rw [← hg, List.all_map] at h2
  exact h2
theorem layY_names (n : Nat) : (layY n).1.map (·.1) = [2, 3, 0, 7, 5, 4, 6] := rfl
theorem rowsThere (os : Os) : (([2, 3, 0, 7, 5, 4, 6] : List Nat).all fun g => Lay.isRow (wH os).heap.toList[g]?) = true := by kernel_rfl
theorem wFits (os : Os) : (wH os).layFits Tryz.prog Rows.verifierLinesRow.laid [] = true := fits_of _ (layL _) (layY_names _) (by decide) (rowsThere os)
theorem okTabs (P : Program) (w : World) : (tab0.all (Lay.okV P w) && tab1.all (Lay.okV P w) && tab2.all (Lay.okV P w) && tab3.all (Lay.okV P w) && tab6.all (Lay.okV P w)) = true := by kernel_rfl
theorem okErr4 (os : Os) : Lay.okV Tryz.prog (wX os) (.iface 1002 (errV (wH os).heap.size)) = true := by kernel_rfl
theorem okErr5 (os : Os) : Lay.okV Tryz.prog (wX os) (.iface 1002 (errV ((wH os).heap.size + 1))) = true := by kernel_rfl
theorem okObj (P : Program) (w : World) : (Lay.okO P w (errO rangeB) && Lay.okO P w (errO syntaxB)) = true := by kernel_rfl
theorem ifaces_of {P : Program} {w w' : World} {l : List (String × DataW Unit)} {y : List (Nat × List Value) × List Obj} (h : Lay.layList P w.heap.size l = some y) (h1 : (y.1.all fun r => r.2.all (Lay.okV P w')) = true) (h2 : y.2.all (Lay.okO P w') = true) : w.layIfaces P l w' = true := by
  unfold World.layIfaces
  rw [h]
  simp only [h1, h2, Bool.and_self]
theorem wIfaces (os : Os) : (wH os).layIfaces Tryz.prog Rows.verifierLinesRow.laid (wX os) = true := by
  have ht := okTabs Tryz.prog (wX os)
  have ho := okObj Tryz.prog (wX os)
  have e4 := okErr4 os
  have e5 := okErr5 os
  simp only [Bool.and_eq_true] at ht ho
  obtain ⟨⟨⟨⟨t0, t1⟩, t2⟩, t3⟩, t6⟩ := ht
  refine ifaces_of (layL _) ?_ ?_
  · unfold layY
    simp only [List.all_cons, List.all_nil, t0, t1, t2, t3, t6, e4, e5, Bool.and_self]
  · unfold layY
    simp only [List.all_cons, List.all_nil, ho.1, ho.2, Bool.and_self]
/-- A start that fits: a report of nothing. -/
def zArgs : Array Value := #[.agg #[.int .i64 0, .int .i64 0, .slice none 0 0, .slice none 0 0, .slice none 0 0, .slice none 0 0, .slice none 0 0, .slice none 0 0]]
theorem wZip (os : Os) : ((wX os).forCall (fun _ _ => 0) ⟨#[], zArgs, []⟩).variablesZipB Tryz.prog = true := by kernel_rfl
theorem wHeap (os : Os) : (((wX os).forCall (fun _ _ => 0) ⟨#[], zArgs, []⟩).heap.toList.drop Tryz.prog.globals.size).take ((begin Tryz.prog (fun _ _ => 0) default).world.heap.size - Tryz.prog.globals.size) = (begin Tryz.prog (fun _ _ => 0) default).world.heap.toList.drop Tryz.prog.globals.size := by kernel_rfl
theorem wMet (os : Os) : laidMet Tryz.prog Rows.verifierLinesRow.laid ((wX os).forCall (fun _ _ => 0) ⟨#[], zArgs, []⟩).memory := by
  have h := laidMet_laidAll (P := Tryz.prog) (os := os) (laid := Rows.verifierLinesRow.laid) zArgs (wFits os) (by rw [laidAll_eq]; exact wIfaces os)
  rw [laidAll_eq] at h
  exact h
theorem wOs (os : Os) : (wX os).os = os := by
  rw [← laidAll_eq]
  exact World.laidAll_os _ _ _
end Go.Proofs.YtdjdiiibcocmpaaGreatDoor
