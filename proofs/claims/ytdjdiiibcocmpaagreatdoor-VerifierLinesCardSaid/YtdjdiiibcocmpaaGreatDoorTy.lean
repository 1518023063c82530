/- Law 58, VerifierLines: what the row lists, tied to the program's text: the closed facts; the variables' names. Conditions: as each theorem says. -/
import Derived.Test.YtdjdiiibcocmpaaGreatDoorRows
import Derived.Test.YtdjdiiibcocmpaaGreatDoorJy
import Derived.LaidByTextLater
import Derived.SevenTiedAt
/- Law 58, VerifierLines: what the row lists, tied to the program's text: the closed facts, one by one. -/
namespace Go.Proofs.YtdjdiiibcocmpaaGreatDoor
open Go
abbrev tieLaid : List (String × DataW Unit) := [("math/bits.deBruijn32tab", Rows.laid_math_bits_deBruijn32tab), ("math/bits.deBruijn64tab", Rows.laid_math_bits_deBruijn64tab), ("internal/strconv.uint64pow10", Rows.laid_internal_strconv_uint64pow10), ("unicode/utf8.acceptRanges", Rows.laid_unicode_utf8_acceptRanges), ("strconv.ErrRange", Rows.laid_strconv_ErrRange), ("strconv.ErrSyntax", Rows.laid_strconv_ErrSyntax)]
theorem tieWord : Tryz.prog.worded (varsWordLater true) = true := worded_list _ _ _ (by kernel_rfl)
theorem tieWord2 : Tryz.prog.worded (varsWordLater !true) = false := worded_list _ _ _ (by kernel_rfl)
theorem tieRoot : Tryz.prog.worded rootWordLater = true := worded_list _ _ _ (by kernel_rfl)
theorem tieKinds : tieLaid.map (fun x => Tryz.prog.kindOfLater x.1) = [LaidKind.data, LaidKind.data, LaidKind.data, LaidKind.data, .sentinel, .sentinel].map some := by kernel_rfl
theorem tieVar : Tryz.prog.funcNamed "gosem.cut.vars" = some 1052 := funcNamed_at _ _ _ (by kernel_rfl)
end Go.Proofs.YtdjdiiibcocmpaaGreatDoor
/- Law 58, VerifierLines: what the row lists, tied: the variables' names. -/
namespace Go.Proofs.YtdjdiiibcocmpaaGreatDoor
open Go
theorem tieNamed : varsNamedLaterB Tryz.prog 1052 tieLaid = true := by kernel_rfl
end Go.Proofs.YtdjdiiibcocmpaaGreatDoor
