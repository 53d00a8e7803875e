/- The tie of the program's text to what its rows list,a fact a theorem (the given one takes too much memory in one): the run,what it lays. Conditions: none. -/
import Derived.Test.YthkegfdijohpaaaGreatDoorRows
import Derived.LaidByTextLater
import Derived.SevenTiedAt
namespace Go.Proofs.YthkegfdijohpaaaGreatDoor
set_option linter.all false
open Go
theorem tie_hd:∀ os tape,varsDone Tryz.prog 400 (varsId Tryz.prog) os tape=true:=fun _ _=>by kernel_rfl
theorem tie_h1:∀ os tape,(DataW.laidRun Tryz.prog (varsWorld Tryz.prog 400 (varsId Tryz.prog) os tape).memory 8 (([("strconv.ErrSyntax", Rows.laid_strconv_ErrSyntax),("strconv.ErrRange", Rows.laid_strconv_ErrRange),("internal/strconv.uint64pow10", Rows.laid_internal_strconv_uint64pow10),("math/bits.deBruijn32tab", Rows.laid_math_bits_deBruijn32tab),("math/bits.deBruijn64tab", Rows.laid_math_bits_deBruijn64tab),("strings.asciiSpace", Rows.laid_strings_asciiSpace),("unicode.White_Space", Rows.laid_unicode_White_Space),("unicode/utf8.acceptRanges", Rows.laid_unicode_utf8_acceptRanges)]:List (String × DataW Unit)).map (·.1))).map (·.1)=some [("strconv.ErrSyntax", Rows.laid_strconv_ErrSyntax),("strconv.ErrRange", Rows.laid_strconv_ErrRange),("internal/strconv.uint64pow10", Rows.laid_internal_strconv_uint64pow10),("math/bits.deBruijn32tab", Rows.laid_math_bits_deBruijn32tab),("math/bits.deBruijn64tab", Rows.laid_math_bits_deBruijn64tab),("strings.asciiSpace", Rows.laid_strings_asciiSpace),("unicode.White_Space", Rows.laid_unicode_White_Space),("unicode/utf8.acceptRanges", Rows.laid_unicode_utf8_acceptRanges)]:=fun _ _=>by kernel_rfl
end Go.Proofs.YthkegfdijohpaaaGreatDoor
