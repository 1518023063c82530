/- Functions of Go's library by the kit's contracts, laid at this program. -/
import Derived.Shelf.Strings.BuilderK
import Derived.Shelf.Strings.BuilderRune
import Derived.Shelf.Utf8.AppendRune
import Derived.Shelf.Strings.Search3
import Derived.Shelf.Strings.Repeat
import Derived.Shelf.Unicode.Decode
import Derived.Shelf.Unicode.DecodeAny
import Derived.Shelf.Slices.Turned
import Derived.KernelRfl
import Derived.Test.YtmgbbnnjbgemdaaGreatDoorProg
namespace Go.Proofs
open Go.Shelf
def Tryz.lays169_ren : Go.Shelf.Ren := ⟨fun | 169 => 212 | n => n, fun | 70 => 317 | 9 => 9 | 0 => 0 | 72 => 319 | 37 => 149 | 127 => 462 | 3 => 3 | 5 => 5 | n => n, fun | n => n⟩
theorem Tryz.lays169 : Go.Proofs.Lays.n169 Tryz.prog Tryz.lays169_ren := {
  mixed := by kernel_rfl
  f169 := Tryz.func212.trans (congrArg some (by kernel_rfl))
  t0 := Tryz.underlying0
  a0 := Tryz.isAgg0
  z0 := Tryz.sizeOf0
  v0 := Tryz.zeroValue0
  t3 := Tryz.underlying3
  a3 := Tryz.isAgg3
  z3 := Tryz.sizeOf3
  v3 := Tryz.zeroValue3
  t9 := Tryz.underlying9
  a9 := Tryz.isAgg9
  z9 := Tryz.sizeOf9
  v9 := Tryz.zeroValue9
  t37 := Tryz.underlying149
  a37 := Tryz.isAgg149
  z37 := Tryz.sizeOf149
  v37 := Tryz.zeroValue149
  t70 := Tryz.underlying317
  a70 := Tryz.isAgg317
  z70 := Tryz.sizeOf317
  v70 := Tryz.zeroValue317
  t72 := Tryz.underlying319
  a72 := Tryz.isAgg319
  z72 := Tryz.sizeOf319
  v72 := Tryz.zeroValue319
  t127 := Tryz.underlying462
  a127 := Tryz.isAgg462
  z127 := Tryz.sizeOf462
  v127 := Tryz.zeroValue462 }
theorem Tryz.Builder_Extra_169 : Builder.Extra Tryz.prog Tryz.lays169_ren := {
  sizeBuilder := by kernel_rfl
  liesBuilder := by kernel_rfl
  t5 := Tryz.underlying5
  a5 := Tryz.isAgg5
  z5 := Tryz.sizeOf5
  v5 := Tryz.zeroValue5
  infoByte := by kernel_rfl
  cellsByte := by kernel_rfl
  sizeByte := by kernel_rfl
  neB5 := by decide }
open Go.RowKit in
theorem Tryz.Builder_String_any_k (B b : Nat) (l : List UInt8) (w : World) (h : Lib.IsBuilderF 319 5 B b (Lib.byteCells l) w) (hBw : B ≤ w.heap.size) :
    Calls Tryz.prog 212 #[.pointer (some ⟨b, 0, none⟩)] w fun e w' => e = .returned (.string ⟨l.toArray⟩) ∧ (Lib.IsBuilderF 319 5 B b (Lib.byteCells l) w' ∧ Below B w w' ∧ Lib.OthersKept 5 (some b) w w') := Any.Builder_String_any_k Tryz.lays169 Tryz.Builder_Extra_169 B b l w h hBw
def Tryz.lays242_ren : Go.Shelf.Ren := ⟨fun | 242 => 369 | 278 => 478 | n => n, fun | 37 => 149 | 21 => 21 | 51 => 482 | 4 => 4 | 5 => 5 | 46 => 320 | n => n, fun | n => n⟩
theorem Tryz.lays242 : Go.Proofs.Lays.n242 Tryz.prog Tryz.lays242_ren := {
  mixed := by kernel_rfl
  f242 := Tryz.func369.trans (congrArg some (by kernel_rfl))
  f278 := Tryz.func478.trans (congrArg some (by kernel_rfl))
  t4 := Tryz.underlying4
  a4 := Tryz.isAgg4
  z4 := Tryz.sizeOf4
  v4 := Tryz.zeroValue4
  t5 := Tryz.underlying5
  a5 := Tryz.isAgg5
  z5 := Tryz.sizeOf5
  v5 := Tryz.zeroValue5
  t21 := Tryz.underlying21
  a21 := Tryz.isAgg21
  z21 := Tryz.sizeOf21
  v21 := Tryz.zeroValue21
  t37 := Tryz.underlying149
  a37 := Tryz.isAgg149
  z37 := Tryz.sizeOf149
  v37 := Tryz.zeroValue149
  t46 := Tryz.underlying320
  a46 := Tryz.isAgg320
  z46 := Tryz.sizeOf320
  v46 := Tryz.zeroValue320
  t51 := Tryz.underlying482
  a51 := Tryz.isAgg482
  z51 := Tryz.sizeOf482
  v51 := Tryz.zeroValue482 }
open Go.RowKit in
theorem Tryz.utf8_AppendRune_row (B : Nat) (v : Value) (n : Nat) (xs : List Value) (r : Int) (hr0 : -2147483648 ≤ r) (hr1 : r ≤ 2147483647) (w : World) (hown : w.ownsRowF B 5 1 v n xs) (hlen : n + 4 ≤ 140737488355328) (hBw : B ≤ w.heap.size) :
    Calls Tryz.prog 369 #[v, .int .i32 r] w fun e w' => ∃ v', e = .returned v' ∧ w'.ownsRowF B 5 1 v' (n + (Lib.runeCells r).length) (xs ++ Lib.runeCells r) ∧ ∃ o, (w.alloc o).grownBy w' v.ownBlock := Any.utf8_AppendRune_row Tryz.lays242 (by kernel_rfl) B v n xs r hr0 hr1 w hown hlen hBw
def Tryz.lays144_ren : Go.Shelf.Ren := ⟨fun | 144 => 46 | 143 => 109 | 219 => 215 | 217 => 371 | 225 => 372 | 224 => 373 | 267 => 374 | 266 => 479 | 314 => 480 | n => n, fun | 9 => 9 | 4 => 4 | 3 => 3 | 5 => 5 | 46 => 320 | 146 => 549 | 51 => 482 | n => n, fun | 1 => 0 | n => n⟩
theorem Tryz.lays144 : Go.Proofs.Lays.n144 Tryz.prog Tryz.lays144_ren := {
  mixed := by kernel_rfl
  f143 := Tryz.func109.trans (congrArg some (by kernel_rfl))
  f144 := Tryz.func46.trans (congrArg some (by kernel_rfl))
  f217 := Tryz.func371.trans (congrArg some (by kernel_rfl))
  f219 := Tryz.func215.trans (congrArg some (by kernel_rfl))
  f224 := Tryz.func373.trans (congrArg some (by kernel_rfl))
  f225 := Tryz.func372.trans (congrArg some (by kernel_rfl))
  f266 := Tryz.func479.trans (congrArg some (by kernel_rfl))
  f267 := Tryz.func374.trans (congrArg some (by kernel_rfl))
  f314 := Tryz.func480.trans (congrArg some (by kernel_rfl))
  t3 := Tryz.underlying3
  a3 := Tryz.isAgg3
  z3 := Tryz.sizeOf3
  v3 := Tryz.zeroValue3
  t4 := Tryz.underlying4
  a4 := Tryz.isAgg4
  z4 := Tryz.sizeOf4
  v4 := Tryz.zeroValue4
  t5 := Tryz.underlying5
  a5 := Tryz.isAgg5
  z5 := Tryz.sizeOf5
  v5 := Tryz.zeroValue5
  t9 := Tryz.underlying9
  a9 := Tryz.isAgg9
  z9 := Tryz.sizeOf9
  v9 := Tryz.zeroValue9
  t46 := Tryz.underlying320
  a46 := Tryz.isAgg320
  z46 := Tryz.sizeOf320
  v46 := Tryz.zeroValue320
  t51 := Tryz.underlying482
  a51 := Tryz.isAgg482
  z51 := Tryz.sizeOf482
  v51 := Tryz.zeroValue482
  t146 := Tryz.underlying549
  a146 := Tryz.isAgg549
  z146 := Tryz.sizeOf549
  v146 := Tryz.zeroValue549
  g1 := by kernel_rfl }
open Go.RowKit Go.Lib in
theorem Tryz.strings_Contains_one (s : ByteArray) (c : UInt8) (w : World) :
    Calls Tryz.prog 46 #[.string s, .string ⟨#[c]⟩] w fun e w' => e = .returned (.bool (decide (0 ≤ Lib.indexByte s.data.toList c))) ∧ w' = w := Any.strings_Contains_one Tryz.lays144 s c w
def Tryz.lays197_ren : Go.Shelf.Ren := ⟨fun | 197 => 110 | 260 => 216 | n => n, fun | 9 => 9 | 21 => 21 | 3 => 3 | 4 => 4 | 5 => 5 | 105 => 207 | 119 => 465 | 0 => 0 | 46 => 320 | 139 => 468 | 138 => 467 | n => n, fun | 3 => 1 | 4 => 2 | n => n⟩
theorem Tryz.lays197 : Go.Proofs.Lays.n197 Tryz.prog Tryz.lays197_ren := {
  mixed := by kernel_rfl
  f197 := Tryz.func110.trans (congrArg some (by kernel_rfl))
  f260 := Tryz.func216.trans (congrArg some (by kernel_rfl))
  t0 := Tryz.underlying0
  a0 := Tryz.isAgg0
  z0 := Tryz.sizeOf0
  v0 := Tryz.zeroValue0
  t3 := Tryz.underlying3
  a3 := Tryz.isAgg3
  z3 := Tryz.sizeOf3
  v3 := Tryz.zeroValue3
  t4 := Tryz.underlying4
  a4 := Tryz.isAgg4
  z4 := Tryz.sizeOf4
  v4 := Tryz.zeroValue4
  t5 := Tryz.underlying5
  a5 := Tryz.isAgg5
  z5 := Tryz.sizeOf5
  v5 := Tryz.zeroValue5
  t9 := Tryz.underlying9
  a9 := Tryz.isAgg9
  z9 := Tryz.sizeOf9
  v9 := Tryz.zeroValue9
  t21 := Tryz.underlying21
  a21 := Tryz.isAgg21
  z21 := Tryz.sizeOf21
  v21 := Tryz.zeroValue21
  t46 := Tryz.underlying320
  a46 := Tryz.isAgg320
  z46 := Tryz.sizeOf320
  v46 := Tryz.zeroValue320
  t105 := Tryz.underlying207
  a105 := Tryz.isAgg207
  z105 := Tryz.sizeOf207
  v105 := Tryz.zeroValue207
  t119 := Tryz.underlying465
  a119 := Tryz.isAgg465
  z119 := Tryz.sizeOf465
  t138 := Tryz.underlying467
  a138 := Tryz.isAgg467
  z138 := Tryz.sizeOf467
  v138 := Tryz.zeroValue467
  t139 := Tryz.underlying468
  a139 := Tryz.isAgg468
  z139 := Tryz.sizeOf468
  v139 := Tryz.zeroValue468
  g3 := by kernel_rfl
  g4 := by kernel_rfl }
def Tryz.lays105_ren : Go.Shelf.Ren := ⟨fun | 105 => 272 | 212 => 411 | 99 => 397 | 165 => 412 | 166 => 285 | 170 => 413 | 169 => 212 | 263 => 507 | 264 => 508 | 206 => 494 | 240 => 368 | 241 => 509 | 276 => 477 | 277 => 568 | n => n, fun | 9 => 9 | 3 => 3 | 4 => 4 | 20 => 20 | 0 => 0 | 46 => 320 | 109 => 496 | 5 => 5 | 72 => 319 | 76 => 324 | 51 => 482 | 146 => 549 | 53 => 197 | 148 => 567 | 70 => 317 | 37 => 149 | 75 => 323 | 127 => 462 | 164 => 547 | 80 => 263 | n => n, fun | n => n⟩
theorem Tryz.lays105 : Go.Proofs.Lays.n105 Tryz.prog Tryz.lays105_ren := {
  mixed := by kernel_rfl
  f99 := Tryz.func397.trans (congrArg some (by kernel_rfl))
  f105 := Tryz.func272.trans (congrArg some (by kernel_rfl))
  f165 := Tryz.func412.trans (congrArg some (by kernel_rfl))
  f166 := Tryz.func285.trans (congrArg some (by kernel_rfl))
  f169 := Tryz.func212.trans (congrArg some (by kernel_rfl))
  f170 := Tryz.func413.trans (congrArg some (by kernel_rfl))
  f206 := Tryz.func494.trans (congrArg some (by kernel_rfl))
  f212 := Tryz.func411.trans (congrArg some (by kernel_rfl))
  f240 := Tryz.func368.trans (congrArg some (by kernel_rfl))
  f241 := Tryz.func509.trans (congrArg some (by kernel_rfl))
  f263 := Tryz.func507.trans (congrArg some (by kernel_rfl))
  f264 := Tryz.func508.trans (congrArg some (by kernel_rfl))
  f276 := Tryz.func477.trans (congrArg some (by kernel_rfl))
  f277 := Tryz.func568.trans (congrArg some (by kernel_rfl))
  t0 := Tryz.underlying0
  a0 := Tryz.isAgg0
  z0 := Tryz.sizeOf0
  v0 := Tryz.zeroValue0
  t3 := Tryz.underlying3
  a3 := Tryz.isAgg3
  z3 := Tryz.sizeOf3
  v3 := Tryz.zeroValue3
  t4 := Tryz.underlying4
  a4 := Tryz.isAgg4
  z4 := Tryz.sizeOf4
  v4 := Tryz.zeroValue4
  t5 := Tryz.underlying5
  a5 := Tryz.isAgg5
  z5 := Tryz.sizeOf5
  v5 := Tryz.zeroValue5
  t9 := Tryz.underlying9
  a9 := Tryz.isAgg9
  z9 := Tryz.sizeOf9
  v9 := Tryz.zeroValue9
  t20 := Tryz.underlying20
  a20 := Tryz.isAgg20
  z20 := Tryz.sizeOf20
  v20 := Tryz.zeroValue20
  t37 := Tryz.underlying149
  a37 := Tryz.isAgg149
  z37 := Tryz.sizeOf149
  v37 := Tryz.zeroValue149
  t46 := Tryz.underlying320
  a46 := Tryz.isAgg320
  z46 := Tryz.sizeOf320
  v46 := Tryz.zeroValue320
  t51 := Tryz.underlying482
  a51 := Tryz.isAgg482
  z51 := Tryz.sizeOf482
  v51 := Tryz.zeroValue482
  t53 := Tryz.underlying197
  a53 := Tryz.isAgg197
  z53 := Tryz.sizeOf197
  v53 := Tryz.zeroValue197
  t70 := Tryz.underlying317
  a70 := Tryz.isAgg317
  z70 := Tryz.sizeOf317
  v70 := Tryz.zeroValue317
  t72 := Tryz.underlying319
  a72 := Tryz.isAgg319
  z72 := Tryz.sizeOf319
  v72 := Tryz.zeroValue319
  t75 := Tryz.underlying323
  a75 := Tryz.isAgg323
  z75 := Tryz.sizeOf323
  v75 := Tryz.zeroValue323
  t76 := Tryz.underlying324
  a76 := Tryz.isAgg324
  z76 := Tryz.sizeOf324
  v76 := Tryz.zeroValue324
  t109 := Tryz.underlying496
  a109 := Tryz.isAgg496
  z109 := Tryz.sizeOf496
  v109 := Tryz.zeroValue496
  t127 := Tryz.underlying462
  a127 := Tryz.isAgg462
  z127 := Tryz.sizeOf462
  v127 := Tryz.zeroValue462
  t146 := Tryz.underlying549
  a146 := Tryz.isAgg549
  z146 := Tryz.sizeOf549
  v146 := Tryz.zeroValue549
  t148 := Tryz.underlying567
  a148 := Tryz.isAgg567
  z148 := Tryz.sizeOf567
  v148 := Tryz.zeroValue567
  t164 := Tryz.underlying547
  a164 := Tryz.isAgg547
  z164 := Tryz.sizeOf547
  v164 := Tryz.zeroValue547 }
theorem Tryz.Builder_Extra_105 : Builder.Extra Tryz.prog Tryz.lays105_ren := {
  sizeBuilder := by kernel_rfl
  liesBuilder := by kernel_rfl
  t5 := Tryz.underlying5
  a5 := Tryz.isAgg5
  z5 := Tryz.sizeOf5
  v5 := Tryz.zeroValue5
  infoByte := by kernel_rfl
  cellsByte := by kernel_rfl
  sizeByte := by kernel_rfl
  neB5 := by decide }
open Go.RowKit Go.Lib in
theorem Tryz.strings_Repeat (s : ByteArray) (c : Nat) (w : World) (hc : c ≤ 9223372036854775807) (hlen : s.size * c ≤ 140737488355328) :
    Calls Tryz.prog 272 #[.string s, .int .i64 c] w fun e w' => e = .returned (.string ⟨(Lib.repeatL s.data.toList c).toArray⟩) ∧ Below w.heap.size w w' := Any.strings_Repeat Tryz.lays105 Tryz.Builder_Extra_105 s c w hc hlen
open Go.RowKit Go.Lib in
theorem Tryz.utf8_DecodeRuneInString (s : ByteArray) (w : World) (hT : Lib.Utf8Tabs 1 2 w) :
    Calls Tryz.prog 110 #[.string s] w fun e w' => e = .returned (.tuple #[.int .i32 (Lib.decodeGo s).1, .int .i64 (Lib.decodeGo s).2]) ∧ Below w.heap.size w w' := Any.utf8_DecodeRuneInString Tryz.lays197 s w hT
def Tryz.lays113_ren : Go.Shelf.Ren := ⟨fun | 113 => 359 | n => n, fun | 28 => 22 | 3 => 3 | 4 => 4 | 9 => 9 | 20 => 20 | 0 => 0 | n => n, fun | n => n⟩
theorem Tryz.lays113 : Go.Proofs.Lays.n113 Tryz.prog Tryz.lays113_ren := {
  mixed := by kernel_rfl
  f113 := Tryz.func359.trans (congrArg some (by kernel_rfl))
  t0 := Tryz.underlying0
  a0 := Tryz.isAgg0
  z0 := Tryz.sizeOf0
  v0 := Tryz.zeroValue0
  t3 := Tryz.underlying3
  a3 := Tryz.isAgg3
  z3 := Tryz.sizeOf3
  v3 := Tryz.zeroValue3
  t4 := Tryz.underlying4
  a4 := Tryz.isAgg4
  z4 := Tryz.sizeOf4
  v4 := Tryz.zeroValue4
  t9 := Tryz.underlying9
  a9 := Tryz.isAgg9
  z9 := Tryz.sizeOf9
  v9 := Tryz.zeroValue9
  t20 := Tryz.underlying20
  a20 := Tryz.isAgg20
  z20 := Tryz.sizeOf20
  v20 := Tryz.zeroValue20
  t28 := Tryz.underlying22
  a28 := Tryz.isAgg22
  z28 := Tryz.sizeOf22
  v28 := Tryz.zeroValue22 }
open Go.Lib in
theorem Tryz.slices_Max_int (b off n c : Nat) (zs : List Int) (w : World) (hn : 0 < n) (hz : n ≤ zs.length) (hbig : n ≤ 9223372036854775807) (hc : ∀ j, j < zs.length → w.cell? ⟨b, off + j, none⟩ = some (.int .i64 (zs.getD j 0))) :
    Calls Tryz.prog 359 #[.slice (some ⟨b, off, none⟩) n c] w fun e w' => e = .returned (.int .i64 (Lib.maxOf (zs.take n))) ∧ w' = w := Any.slices_Max_int Tryz.lays113 b off n c zs w hn hz hbig hc
end Go.Proofs
