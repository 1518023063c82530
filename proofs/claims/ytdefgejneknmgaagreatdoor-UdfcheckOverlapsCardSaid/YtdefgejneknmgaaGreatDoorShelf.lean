/- Three of Go's library functions by the kit's contracts, laid at this program. -/
import Derived.Shelf.Strings.Repeat
import Derived.Shelf.Slices.Turned
import Derived.Shelf.Slices.Equal
import Derived.KernelRfl
import Derived.Test.YtdefgejneknmgaaGreatDoorProg
namespace Go.Proofs
open Go.Shelf
def Tryz.lays105_ren : Go.Shelf.Ren := ⟨fun | 105 => 227 | 212 => 362 | 99 => 345 | 165 => 363 | 166 => 240 | 170 => 364 | 169 => 246 | 263 => 468 | 264 => 469 | 206 => 453 | 240 => 372 | 241 => 470 | 276 => 475 | 277 => 541 | n => n, fun | 9 => 9 | 3 => 3 | 4 => 4 | 20 => 20 | 0 => 0 | 46 => 298 | 109 => 464 | 5 => 5 | 72 => 343 | 76 => 349 | 51 => 448 | 146 => 543 | 53 => 98 | 148 => 545 | 70 => 341 | 37 => 134 | 75 => 348 | 127 => 473 | 164 => 552 | 80 => 232 | n => n, fun | n => n⟩
theorem Tryz.lays105 : Go.Proofs.Lays.n105 Tryz.prog Tryz.lays105_ren := {
  mixed := by kernel_rfl
  f99 := Tryz.func345.trans (congrArg some (by kernel_rfl))
  f105 := Tryz.func227.trans (congrArg some (by kernel_rfl))
  f165 := Tryz.func363.trans (congrArg some (by kernel_rfl))
  f166 := Tryz.func240.trans (congrArg some (by kernel_rfl))
  f169 := Tryz.func246.trans (congrArg some (by kernel_rfl))
  f170 := Tryz.func364.trans (congrArg some (by kernel_rfl))
  f206 := Tryz.func453.trans (congrArg some (by kernel_rfl))
  f212 := Tryz.func362.trans (congrArg some (by kernel_rfl))
  f240 := Tryz.func372.trans (congrArg some (by kernel_rfl))
  f241 := Tryz.func470.trans (congrArg some (by kernel_rfl))
  f263 := Tryz.func468.trans (congrArg some (by kernel_rfl))
  f264 := Tryz.func469.trans (congrArg some (by kernel_rfl))
  f276 := Tryz.func475.trans (congrArg some (by kernel_rfl))
  f277 := Tryz.func541.trans (congrArg some (by kernel_rfl))
  t0 := Tryz.underlying0
  a0 := Tryz.isAgg0
  z0 := Tryz.sizeOf0
  v0 := Tryz.zeroValue0
  t3 := Tryz.underlying3
  a3 := Tryz.isAgg3
  z3 := Tryz.sizeOf3
  v3 := Tryz.zeroValue3
  t4 := Tryz.underlying4
  a4 := Tryz.isAgg4
  z4 := Tryz.sizeOf4
  v4 := Tryz.zeroValue4
  t5 := Tryz.underlying5
  a5 := Tryz.isAgg5
  z5 := Tryz.sizeOf5
  v5 := Tryz.zeroValue5
  t9 := Tryz.underlying9
  a9 := Tryz.isAgg9
  z9 := Tryz.sizeOf9
  v9 := Tryz.zeroValue9
  t20 := Tryz.underlying20
  a20 := Tryz.isAgg20
  z20 := Tryz.sizeOf20
  v20 := Tryz.zeroValue20
  t37 := Tryz.underlying134
  a37 := Tryz.isAgg134
  z37 := Tryz.sizeOf134
  v37 := Tryz.zeroValue134
  t46 := Tryz.underlying298
  a46 := Tryz.isAgg298
  z46 := Tryz.sizeOf298
  v46 := Tryz.zeroValue298
  t51 := Tryz.underlying448
  a51 := Tryz.isAgg448
  z51 := Tryz.sizeOf448
  v51 := Tryz.zeroValue448
  t53 := Tryz.underlying98
  a53 := Tryz.isAgg98
  z53 := Tryz.sizeOf98
  v53 := Tryz.zeroValue98
  t70 := Tryz.underlying341
  a70 := Tryz.isAgg341
  z70 := Tryz.sizeOf341
  v70 := Tryz.zeroValue341
  t72 := Tryz.underlying343
  a72 := Tryz.isAgg343
  z72 := Tryz.sizeOf343
  v72 := Tryz.zeroValue343
  t75 := Tryz.underlying348
  a75 := Tryz.isAgg348
  z75 := Tryz.sizeOf348
  v75 := Tryz.zeroValue348
  t76 := Tryz.underlying349
  a76 := Tryz.isAgg349
  z76 := Tryz.sizeOf349
  v76 := Tryz.zeroValue349
  t109 := Tryz.underlying464
  a109 := Tryz.isAgg464
  z109 := Tryz.sizeOf464
  v109 := Tryz.zeroValue464
  t127 := Tryz.underlying473
  a127 := Tryz.isAgg473
  z127 := Tryz.sizeOf473
  v127 := Tryz.zeroValue473
  t146 := Tryz.underlying543
  a146 := Tryz.isAgg543
  z146 := Tryz.sizeOf543
  v146 := Tryz.zeroValue543
  t148 := Tryz.underlying545
  a148 := Tryz.isAgg545
  z148 := Tryz.sizeOf545
  v148 := Tryz.zeroValue545
  t164 := Tryz.underlying552
  a164 := Tryz.isAgg552
  z164 := Tryz.sizeOf552
  v164 := Tryz.zeroValue552 }
theorem Tryz.Builder_Extra_105 : Builder.Extra Tryz.prog Tryz.lays105_ren := {
  sizeBuilder := by kernel_rfl
  liesBuilder := by kernel_rfl
  t5 := Tryz.underlying5
  a5 := Tryz.isAgg5
  z5 := Tryz.sizeOf5
  v5 := Tryz.zeroValue5
  infoByte := by kernel_rfl
  cellsByte := by kernel_rfl
  sizeByte := by kernel_rfl
  neB5 := by decide }
open Go.RowKit Go.Lib in
theorem Tryz.strings_Repeat (s : ByteArray) (c : Nat) (w : World) (hc : c ≤ 9223372036854775807) (hlen : s.size * c ≤ 140737488355328) :
    Calls Tryz.prog 227 #[.string s, .int .i64 c] w fun e w' => e = .returned (.string ⟨(Lib.repeatL s.data.toList c).toArray⟩) ∧ Below w.heap.size w w' := Any.strings_Repeat Tryz.lays105 Tryz.Builder_Extra_105 s c w hc hlen
def Tryz.lays107_ren : Go.Shelf.Ren := ⟨fun | 107 => 9 | 108 => 17 | n => n, fun | 28 => 25 | 3 => 3 | 4 => 4 | 0 => 0 | n => n, fun | n => n⟩
theorem Tryz.lays107 : Go.Proofs.Lays.n107 Tryz.prog Tryz.lays107_ren := {
  mixed := by kernel_rfl
  f107 := Tryz.func9.trans (congrArg some (by kernel_rfl))
  f108 := Tryz.func17.trans (congrArg some (by kernel_rfl))
  t0 := Tryz.underlying0
  a0 := Tryz.isAgg0
  z0 := Tryz.sizeOf0
  v0 := Tryz.zeroValue0
  t3 := Tryz.underlying3
  a3 := Tryz.isAgg3
  z3 := Tryz.sizeOf3
  v3 := Tryz.zeroValue3
  t4 := Tryz.underlying4
  a4 := Tryz.isAgg4
  z4 := Tryz.sizeOf4
  v4 := Tryz.zeroValue4
  t28 := Tryz.underlying25
  a28 := Tryz.isAgg25
  z28 := Tryz.sizeOf25
  v28 := Tryz.zeroValue25 }
open Go.Lib in
theorem Tryz.slices_Contains_int (b off n c : Nat) (zs : List Int) (x : Int) (w : World) (hz : n ≤ zs.length) (hbig : n ≤ 9223372036854775807) (hc : ∀ j, j < zs.length → w.cell? ⟨b, off + j, none⟩ = some (.int .i64 (zs.getD j 0))) :
    Calls Tryz.prog 9 #[.slice (some ⟨b, off, none⟩) n c, .int .i64 x] w fun e w' => e = .returned (.bool ((zs.take n).contains x)) ∧ w' = w := Any.slices_Contains_int Tryz.lays107 b off n c zs x w hz hbig hc
open Go.Lib in
theorem Tryz.slices_Contains_int_empty (a : Option Addr) (c : Nat) (x : Int) (w : World) :
    Calls Tryz.prog 9 #[.slice a 0 c, .int .i64 x] w fun e w' => e = .returned (.bool false) ∧ w' = w := Any.slices_Contains_int_empty Tryz.lays107 a c x w
def Tryz.lays111_ren : Go.Shelf.Ren := ⟨fun | 111 => 7 | n => n, fun | 28 => 25 | 3 => 3 | 4 => 4 | 0 => 0 | n => n, fun | n => n⟩
theorem Tryz.lays111 : Go.Proofs.Lays.n111 Tryz.prog Tryz.lays111_ren := {
  mixed := by kernel_rfl
  f111 := Tryz.func7.trans (congrArg some (by kernel_rfl))
  t0 := Tryz.underlying0
  a0 := Tryz.isAgg0
  z0 := Tryz.sizeOf0
  v0 := Tryz.zeroValue0
  t3 := Tryz.underlying3
  a3 := Tryz.isAgg3
  z3 := Tryz.sizeOf3
  v3 := Tryz.zeroValue3
  t4 := Tryz.underlying4
  a4 := Tryz.isAgg4
  z4 := Tryz.sizeOf4
  v4 := Tryz.zeroValue4
  t28 := Tryz.underlying25
  a28 := Tryz.isAgg25
  z28 := Tryz.sizeOf25
  v28 := Tryz.zeroValue25 }
open Go.RowKit Go.Lib in
theorem Tryz.slices_Equal_int (b1 o1 n c b2 o2 m d : Nat) (xs ys : List Int) (w : World) (hx : n ≤ xs.length) (hy : m ≤ ys.length) (hbig : n ≤ 9223372036854775807) (hbig2 : m ≤ 9223372036854775807) (hc1 : ∀ j, j < xs.length → w.cell? ⟨b1, o1 + j, none⟩ = some (.int .i64 (xs.getD j 0))) (hc2 : ∀ j, j < ys.length → w.cell? ⟨b2, o2 + j, none⟩ = some (.int .i64 (ys.getD j 0))) :
    Calls Tryz.prog 7 #[.slice (some ⟨b1, o1, none⟩) n c, .slice (some ⟨b2, o2, none⟩) m d] w fun e w' => e = .returned (.bool (xs.take n == ys.take m)) ∧ ∃ q, w' = w.drewN q := Any.slices_Equal_int Tryz.lays111 b1 o1 n c b2 o2 m d xs ys w hx hy hbig hbig2 hc1 hc2
open Go.RowKit Go.Lib in
theorem Tryz.slices_Equal_int_empty (a1 a2 : Option Addr) (c m d : Nat) (w : World) (hbig2 : m ≤ 9223372036854775807) :
    Calls Tryz.prog 7 #[.slice a1 0 c, .slice a2 m d] w fun e w' => e = .returned (.bool (decide (m = 0))) ∧ w' = w := Any.slices_Equal_int_empty Tryz.lays111 a1 a2 c m d w hbig2
end Go.Proofs
