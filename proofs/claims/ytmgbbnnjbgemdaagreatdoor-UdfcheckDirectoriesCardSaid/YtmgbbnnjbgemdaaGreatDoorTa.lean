/- Law 45, UdfcheckDirectories: what the row lists, tied to the program's text: the closed facts, one by one. -/
import Derived.Test.YtmgbbnnjbgemdaaGreatDoorRows
import Derived.LaidByTextLater
import Derived.SevenTiedAt
namespace Go.Proofs.YtmgbbnnjbgemdaaGreatDoor
open Go
abbrev tieLaid : List (String × DataW Unit) := [("unicode/utf8.acceptRanges", Rows.laid_unicode_utf8_acceptRanges), ("internal/strconv.uint64pow10", Rows.laid_internal_strconv_uint64pow10), ("math/bits.deBruijn32tab", Rows.laid_math_bits_deBruijn32tab), ("math/bits.deBruijn64tab", Rows.laid_math_bits_deBruijn64tab)]
theorem tieWord : Tryz.prog.worded (varsWordLater true) = true := by kernel_rfl
theorem tieWord2 : Tryz.prog.worded (varsWordLater !true) = false := by kernel_rfl
theorem tieRoot : Tryz.prog.worded rootWordLater = true := by kernel_rfl
theorem tieKinds : tieLaid.map (fun x => Tryz.prog.kindOfLater x.1) = [LaidKind.data, LaidKind.data, LaidKind.data, LaidKind.data].map some := by kernel_rfl
theorem tieSome : (Tryz.prog.funcNamed "gosem.cut.vars").isSome = true := by kernel_rfl
end Go.Proofs.YtmgbbnnjbgemdaaGreatDoor
