/- Law 54, DefragCounts: a part of the proof. -/
import Derived.Test.YtihcgekdnljahaaGreatDoorQ13
import Derived.Test.YtihcgekdnljahaaGreatDoorQ14
section
namespace Go.Proofs.YtihcgekdnljahaaGreatDoor
open Go
theorem pin_laid_unicode_utf8_first:Tryz.pinned.checked.prog.pinnedFits "unicode/utf8.first" = true:=by
 show Tryz.prog.pinnedFits _=true
 unfold Program.pinnedFits
 rw[tieVar]
 kernel_rfl
theorem noOwnUnsafe:Tryz.pinned.checked.prog.headLifts.contains "ownunsafe" = false:=by kernel_rfl
theorem fits1:Tryz.pinned.checked.prog.listedFits [("math/bits.deBruijn32tab",Rows.laid_math_bits_deBruijn32tab),("math/bits.deBruijn64tab",Rows.laid_math_bits_deBruijn64tab),("internal/strconv.uint64pow10",Rows.laid_internal_strconv_uint64pow10),("unicode/utf8.acceptRanges",Rows.laid_unicode_utf8_acceptRanges),("unicode/utf8.first",Rows.laid_unicode_utf8_first)]=true:=by
 unfold Program.listedFits
 rw[noOwnUnsafe]
 kernel_rfl
theorem tie:Tryz.prog.laidByTextLater [("math/bits.deBruijn32tab",Rows.laid_math_bits_deBruijn32tab),("math/bits.deBruijn64tab",Rows.laid_math_bits_deBruijn64tab),("internal/strconv.uint64pow10",Rows.laid_internal_strconv_uint64pow10),("unicode/utf8.acceptRanges",Rows.laid_unicode_utf8_acceptRanges)] [.data, .data, .data, .data] true:=
 Program.laidByTextLater_of_run 941 400 8 tieWord tieWord2 tieRoot tieKinds tieVar tieNamed tieDone tieRun tieRows
theorem defragCounts_row_tie:Rows.defragCountsRow.laidByTextAt .later Tryz.pinned [.data, .data, .data, .data, .pinned] true:=
 OpenClaim.laidByTextAt_pinned rfl rfl tie rfl rfl rfl rfl (fun y hy _e=>by
  simp only[Rows.defragCountsRow,List.zip_cons_cons,List.zip_nil_right,List.mem_cons,List.mem_nil_iff,or_false] at hy
  rcases hy with rfl|rfl|rfl|rfl|rfl
  ·cases _e
  ·cases _e
  ·cases _e
  ·cases _e
  ·exact ⟨pin_laid_unicode_utf8_first,by kernel_rfl⟩) fits1
end Go.Proofs.YtihcgekdnljahaaGreatDoor
end
