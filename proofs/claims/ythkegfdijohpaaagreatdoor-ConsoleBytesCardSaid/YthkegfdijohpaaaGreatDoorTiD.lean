/- The tie of the program's text to what its rows list,a fact a theorem (the given one takes too much memory in one): joined;each row's tie. Conditions: none. -/
import Derived.Test.YthkegfdijohpaaaGreatDoorTiA
import Derived.Test.YthkegfdijohpaaaGreatDoorTiB
import Derived.Test.YthkegfdijohpaaaGreatDoorTiC
namespace Go.Proofs.YthkegfdijohpaaaGreatDoor
set_option linter.all false
open Go
theorem pin_laid_unicode_utf8_first:Tryz.pinned.checked.prog.pinnedFits "unicode/utf8.first" = true:=by kernel_rfl
theorem pin_laid_unicode_CaseRanges:Tryz.pinned.checked.prog.pinnedFits "unicode.CaseRanges" = true:=by kernel_rfl
theorem noOwnUnsafe:Tryz.pinned.checked.prog.headLifts.contains "ownunsafe" = false:=by kernel_rfl
theorem fits1:Tryz.pinned.checked.prog.listedFits [("strconv.ErrSyntax", Rows.laid_strconv_ErrSyntax),("strconv.ErrRange", Rows.laid_strconv_ErrRange),("internal/strconv.uint64pow10", Rows.laid_internal_strconv_uint64pow10),("math/bits.deBruijn32tab", Rows.laid_math_bits_deBruijn32tab),("math/bits.deBruijn64tab", Rows.laid_math_bits_deBruijn64tab),("strings.asciiSpace", Rows.laid_strings_asciiSpace),("unicode.White_Space", Rows.laid_unicode_White_Space),("unicode/utf8.first", Rows.laid_unicode_utf8_first),("unicode/utf8.acceptRanges", Rows.laid_unicode_utf8_acceptRanges),("unicode.CaseRanges", Rows.laid_unicode_CaseRanges)]=true:=by
 unfold Program.listedFits
 rw [noOwnUnsafe]
 kernel_rfl
theorem tie_h2:∀ os tape,(DataW.laidRun Tryz.prog (varsWorld Tryz.prog 400 (varsId Tryz.prog) os tape).memory 8 (([("strconv.ErrSyntax", Rows.laid_strconv_ErrSyntax),("strconv.ErrRange", Rows.laid_strconv_ErrRange),("internal/strconv.uint64pow10", Rows.laid_internal_strconv_uint64pow10),("math/bits.deBruijn32tab", Rows.laid_math_bits_deBruijn32tab),("math/bits.deBruijn64tab", Rows.laid_math_bits_deBruijn64tab),("strings.asciiSpace", Rows.laid_strings_asciiSpace),("unicode.White_Space", Rows.laid_unicode_White_Space),("unicode/utf8.acceptRanges", Rows.laid_unicode_utf8_acceptRanges)]:List (String × DataW Unit)).map (·.1))).map (fun x=>decide x.2.Nodup && laidRowsB Tryz.prog (varsWorld Tryz.prog 400 (varsId Tryz.prog) os tape).memory x.2)=some true:=fun os tape=>by
 have h:=tie_ps os tape
 generalize DataW.laidRun Tryz.prog (varsWorld Tryz.prog 400 (varsId Tryz.prog) os tape).memory 8 (([("strconv.ErrSyntax", Rows.laid_strconv_ErrSyntax),("strconv.ErrRange", Rows.laid_strconv_ErrRange),("internal/strconv.uint64pow10", Rows.laid_internal_strconv_uint64pow10),("math/bits.deBruijn32tab", Rows.laid_math_bits_deBruijn32tab),("math/bits.deBruijn64tab", Rows.laid_math_bits_deBruijn64tab),("strings.asciiSpace", Rows.laid_strings_asciiSpace),("unicode.White_Space", Rows.laid_unicode_White_Space),("unicode/utf8.acceptRanges", Rows.laid_unicode_utf8_acceptRanges)]:List (String × DataW Unit)).map (·.1))=r at h ⊢
 cases r with
 | none=>cases h
 | some x =>
  simp only [Option.map_some,Option.some.injEq]at h ⊢
  rw [h,tie_nd,tie_rb os tape];rfl
theorem tieC:Tryz.prog.laidByTextLater [("strconv.ErrSyntax", Rows.laid_strconv_ErrSyntax),("strconv.ErrRange", Rows.laid_strconv_ErrRange),("internal/strconv.uint64pow10", Rows.laid_internal_strconv_uint64pow10),("math/bits.deBruijn32tab", Rows.laid_math_bits_deBruijn32tab),("math/bits.deBruijn64tab", Rows.laid_math_bits_deBruijn64tab),("strings.asciiSpace", Rows.laid_strings_asciiSpace),("unicode.White_Space", Rows.laid_unicode_White_Space),("unicode/utf8.acceptRanges", Rows.laid_unicode_utf8_acceptRanges)] [.sentinel,.sentinel,.data,.data,.data,.data,.listed,.data] true:=
 Program.laidByTextLater_by_run 400 8 tie_hw tie_hwn tie_hroot tie_hk tie_hg tie_hn tie_hd tie_h1 tie_h2
theorem consoleReads_row_tie:Rows.consoleReadsRow.laidByTextAt .later Tryz.pinned [.sentinel,.sentinel,.data,.data,.data,.data,.listed,.pinned,.data,.pinned] true:=
 OpenClaim.laidByTextAt_pinned rfl rfl tieC rfl rfl rfl rfl (fun y hy _e=>by
  simp only [Rows.consoleReadsRow,List.zip_cons_cons,List.zip_nil_right,List.mem_cons,List.mem_nil_iff,or_false]at hy
  rcases hy with rfl|rfl|rfl|rfl|rfl|rfl|rfl|rfl|rfl|rfl
  ·cases _e
  ·cases _e
  ·cases _e
  ·cases _e
  ·cases _e
  ·cases _e
  ·cases _e
  ·exact⟨pin_laid_unicode_utf8_first,by kernel_rfl⟩
  ·cases _e
  ·exact⟨pin_laid_unicode_CaseRanges,by kernel_rfl⟩) fits1
theorem consoleLines_row_tie:Rows.consoleLinesRow.laidByTextAt .later Tryz.pinned [.sentinel,.sentinel,.data,.data,.data,.data,.listed,.pinned,.data,.pinned] true:=
 OpenClaim.laidByTextAt_pinned rfl rfl tieC rfl rfl rfl rfl (fun y hy _e=>by
  simp only [Rows.consoleLinesRow,List.zip_cons_cons,List.zip_nil_right,List.mem_cons,List.mem_nil_iff,or_false]at hy
  rcases hy with rfl|rfl|rfl|rfl|rfl|rfl|rfl|rfl|rfl|rfl
  ·cases _e
  ·cases _e
  ·cases _e
  ·cases _e
  ·cases _e
  ·cases _e
  ·cases _e
  ·exact⟨pin_laid_unicode_utf8_first,by kernel_rfl⟩
  ·cases _e
  ·exact⟨pin_laid_unicode_CaseRanges,by kernel_rfl⟩) fits1
theorem consoleBack_row_tie:Rows.consoleBackRow.laidByTextAt .later Tryz.pinned [.sentinel,.sentinel,.data,.data,.data,.data,.listed,.pinned,.data,.pinned] true:=
 OpenClaim.laidByTextAt_pinned rfl rfl tieC rfl rfl rfl rfl (fun y hy _e=>by
  simp only [Rows.consoleBackRow,List.zip_cons_cons,List.zip_nil_right,List.mem_cons,List.mem_nil_iff,or_false]at hy
  rcases hy with rfl|rfl|rfl|rfl|rfl|rfl|rfl|rfl|rfl|rfl
  ·cases _e
  ·cases _e
  ·cases _e
  ·cases _e
  ·cases _e
  ·cases _e
  ·cases _e
  ·exact⟨pin_laid_unicode_utf8_first,by kernel_rfl⟩
  ·cases _e
  ·exact⟨pin_laid_unicode_CaseRanges,by kernel_rfl⟩) fits1
theorem consoleBytes_row_tie:Rows.consoleBytesRow.laidByTextAt .later Tryz.pinned [.sentinel,.sentinel,.data,.data,.data,.data,.listed,.pinned,.data,.pinned] true:=
 OpenClaim.laidByTextAt_pinned rfl rfl tieC rfl rfl rfl rfl (fun y hy _e=>by
  simp only [Rows.consoleBytesRow,List.zip_cons_cons,List.zip_nil_right,List.mem_cons,List.mem_nil_iff,or_false]at hy
  rcases hy with rfl|rfl|rfl|rfl|rfl|rfl|rfl|rfl|rfl|rfl
  ·cases _e
  ·cases _e
  ·cases _e
  ·cases _e
  ·cases _e
  ·cases _e
  ·cases _e
  ·exact⟨pin_laid_unicode_utf8_first,by kernel_rfl⟩
  ·cases _e
  ·exact⟨pin_laid_unicode_CaseRanges,by kernel_rfl⟩) fits1
end Go.Proofs.YthkegfdijohpaaaGreatDoor
