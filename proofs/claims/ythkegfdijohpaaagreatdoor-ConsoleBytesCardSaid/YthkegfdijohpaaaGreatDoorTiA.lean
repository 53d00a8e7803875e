/- The tie of the program's text to what its rows list,a fact a theorem (the given one takes too much memory in one): the words,the names. Conditions: none. -/
import Derived.Test.YthkegfdijohpaaaGreatDoorRows
import Derived.LaidByTextLater
import Derived.SevenTiedAt
namespace Go.Proofs.YthkegfdijohpaaaGreatDoor
set_option linter.all false
open Go
theorem tie_hw:Tryz.prog.worded (varsWordLater true)=true:=by kernel_rfl
theorem tie_hwn:Tryz.prog.worded (varsWordLater !true)=false:=by kernel_rfl
theorem tie_hroot:Tryz.prog.worded rootWordLater=true:=by kernel_rfl
theorem tie_hk:([("strconv.ErrSyntax", Rows.laid_strconv_ErrSyntax),("strconv.ErrRange", Rows.laid_strconv_ErrRange),("internal/strconv.uint64pow10", Rows.laid_internal_strconv_uint64pow10),("math/bits.deBruijn32tab", Rows.laid_math_bits_deBruijn32tab),("math/bits.deBruijn64tab", Rows.laid_math_bits_deBruijn64tab),("strings.asciiSpace", Rows.laid_strings_asciiSpace),("unicode.White_Space", Rows.laid_unicode_White_Space),("unicode/utf8.acceptRanges", Rows.laid_unicode_utf8_acceptRanges)]:List (String × DataW Unit)).map (fun x=>Tryz.prog.kindOfLater x.1)=([.sentinel,.sentinel,.data,.data,.data,.data,.listed,.data]:List LaidKind).map some:=by kernel_rfl
theorem tie_hg:(Tryz.prog.funcNamed "gosem.cut.vars").isSome=true:=by kernel_rfl
theorem tie_hn:varsNamedLaterB Tryz.prog (varsId Tryz.prog) [("strconv.ErrSyntax", Rows.laid_strconv_ErrSyntax),("strconv.ErrRange", Rows.laid_strconv_ErrRange),("internal/strconv.uint64pow10", Rows.laid_internal_strconv_uint64pow10),("math/bits.deBruijn32tab", Rows.laid_math_bits_deBruijn32tab),("math/bits.deBruijn64tab", Rows.laid_math_bits_deBruijn64tab),("strings.asciiSpace", Rows.laid_strings_asciiSpace),("unicode.White_Space", Rows.laid_unicode_White_Space),("unicode/utf8.acceptRanges", Rows.laid_unicode_utf8_acceptRanges)]=true:=by kernel_rfl
end Go.Proofs.YthkegfdijohpaaaGreatDoor
