/- The tie of the program's text to what its rows list,a fact a theorem (the given one takes too much memory in one): the places. Conditions: none. -/
import Derived.Test.YthkegfdijohpaaaGreatDoorRows
import Derived.LaidByTextLater
import Derived.SevenTiedAt
namespace Go.Proofs.YthkegfdijohpaaaGreatDoor
set_option linter.all false
open Go
def tieRow(b n:Nat):List MemPlace:=(List.range n).map (MemPlace.cell b)
def tiePs:List MemPlace:=[.cell 2 0,.cell 18 0,.cell 3 0,.cell 17 0]++tieRow 0 20++tieRow 4 32++tieRow 5 64++tieRow 6 256++[.cell 7 0]++tieRow 20 3++tieRow 19 21++tieRow 10 32
theorem tie_ps:∀ os tape,(DataW.laidRun Tryz.prog (varsWorld Tryz.prog 400 (varsId Tryz.prog) os tape).memory 8 (([("strconv.ErrSyntax", Rows.laid_strconv_ErrSyntax),("strconv.ErrRange", Rows.laid_strconv_ErrRange),("internal/strconv.uint64pow10", Rows.laid_internal_strconv_uint64pow10),("math/bits.deBruijn32tab", Rows.laid_math_bits_deBruijn32tab),("math/bits.deBruijn64tab", Rows.laid_math_bits_deBruijn64tab),("strings.asciiSpace", Rows.laid_strings_asciiSpace),("unicode.White_Space", Rows.laid_unicode_White_Space),("unicode/utf8.acceptRanges", Rows.laid_unicode_utf8_acceptRanges)]:List (String × DataW Unit)).map (·.1))).map (·.2)=some tiePs:=fun _ _=>by kernel_rfl
theorem tie_nd:decide tiePs.Nodup=true:=by kernel_rfl
theorem tie_rb:∀ os tape,laidRowsB Tryz.prog (varsWorld Tryz.prog 400 (varsId Tryz.prog) os tape).memory tiePs=true:=fun _ _=>by kernel_rfl
end Go.Proofs.YthkegfdijohpaaaGreatDoor
