/- Law 54, DefragCounts: a part of the proof. -/
import Derived.Test.YtihcgekdnljahaaGreatDoorRows
import Derived.Test.YtihcgekdnljahaaGreatDoorQ11
import Derived.LaidByTextLater
import Derived.SevenTiedAt
section
namespace Go.Proofs.YtihcgekdnljahaaGreatDoor
open Go
abbrev tieLaid:List (String × DataW Unit):=[("math/bits.deBruijn32tab",Rows.laid_math_bits_deBruijn32tab),("math/bits.deBruijn64tab",Rows.laid_math_bits_deBruijn64tab),("internal/strconv.uint64pow10",Rows.laid_internal_strconv_uint64pow10),("unicode/utf8.acceptRanges",Rows.laid_unicode_utf8_acceptRanges)]
theorem tieWord:Tryz.prog.worded (varsWordLater true)=true:=worded_list _ _ _ (by kernel_rfl)
theorem tieWord2:Tryz.prog.worded (varsWordLater !true)=false:=worded_list _ _ _ (by kernel_rfl)
theorem tieRoot:Tryz.prog.worded rootWordLater=true:=worded_list _ _ _ (by kernel_rfl)
theorem tieKinds:tieLaid.map (fun x=>Tryz.prog.kindOfLater x.1)=[LaidKind.data,LaidKind.data,LaidKind.data,LaidKind.data].map some:=by kernel_rfl
theorem tieVar:Tryz.prog.funcNamed "gosem.cut.vars" = some 941:=funcNamed_at _ _ _ (by kernel_rfl)
end Go.Proofs.YtihcgekdnljahaaGreatDoor
end
section
namespace Go.Proofs.YtihcgekdnljahaaGreatDoor
open Go
theorem tieNamed:varsNamedLaterB Tryz.prog 941 tieLaid=true:=by kernel_rfl
end Go.Proofs.YtihcgekdnljahaaGreatDoor
end
