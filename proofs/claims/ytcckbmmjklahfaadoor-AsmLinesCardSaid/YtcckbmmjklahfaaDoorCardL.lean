/- What the laid variables of the rows on asm give the walks, and the world's shape; a start at which they are laid. Conditions: none. -/
import Derived.Test.YtcckbmmjklahfaaDoorRows
import Derived.Test.YtcckbmmjklahfaaDoorCards
import Derived.Test.YtcckbmmjklahfaaDoorTie
import Derived.Test.YtcckbmmjklahfaaDoorAsS
import Derived.ProofKit
import Derived.LaidMore
import Derived.OpenShut
import Derived.Stop.Joined
import Derived.Stop.LaidErr
import Derived.SevenTiedAt
import Derived.Lay
import Derived.LaidOnce
import Derived.Handed
import Derived.Shelf.Vars
namespace Go.Proofs.YtcckbmmjklahfaaDoor
set_option linter.all false
open Go Go.ChangeShapes Go.WideShapes Go.ChangeAt Go.RowKit
/-- the wrap of a row whose variables are laid, the world's shape kept -/
theorem handed_laid_shaped {H : Type} {enc : TypeId × Value → H} {a : Assume} {C : Checked} {os : Os} {f : FuncId} {fn : Func} {s : ChangeSpec} {conds : List PathCond} {apart fresh handsOn again : Bool} {X : World → Array Value → Prop}
    (hX : ∀ (w w' : World) (args : Array Value), w.heap = w'.heap → X w args → X w' args)
    (own : ownKnob C.prog.godebug = none) (started : os.Started) (noInit : C.prog.inits.idxOf? f = none) (hfn : C.prog.funcs[f]? = some fn)
    (witness : ∃ (w : World) (tape : Tape) (i : Input), w.os = os ∧ (w.forCall tape i).Shaped C.prog ∧ i.vars = [] ∧ Input.okWide C.prog (w.forCall tape i) .any w.heap.size f i ∧
      ((s.pre enc C.prog fn conds apart (w.forCall tape i).memory i.args ∧ X (w.forCall tape i).memory i.args) ∧ sizedMet enc C.prog fn (OpenSpec.ofChange s) apart (w.forCall tape i).memory i.args) ∧ a.holds C.prog (lone (Frame.enter C.prog f i.args .normal) [] (w.forCall tape i)))
    (body : ∀ (W : World) (base : Nat) (args : Array Value) (ds gs : List (DataW H)) (before : List MemPlace),
      (∀ (j : Nat) t v, fn.params[j]? = some t → args[j]? = some v → Value.okWide C.prog W .any base t v) → DataW.Whole enc C.prog fn.params.toList s.vars apart W args.toList ds gs before →
      (DataW.weightsEach C.prog (fn.params.toList ++ s.plain.varTypes C.prog) (ds ++ gs)).all (· ≤ reachBytes) = true → X W args → W.ShapedOpen C.prog →
      Calls C.prog f args W fun e W' => ∃ v, e = .returned v ∧ s.post enc C.prog fn apart fresh handsOn again W args v W') :
    ReturnsInHanded a C os f .any (fun w args => (s.pre enc C.prog fn conds apart w args ∧ X w args) ∧ sizedMet enc C.prog fn (OpenSpec.ofChange s) apart w args) (s.post enc C.prog fn apart fresh handsOn again) := by
  refine returnsInHanded_of_calls own started noInit witness ?_
  rintro w tape i - hsh - ⟨_, _, _, fn', hfn', _, _, _, _, hval⟩ ⟨⟨⟨ds, gs, before, hw, _⟩, hx⟩, hz⟩ _
  cases hfn'.symm.trans hfn
  refine (body (w.forCall tape i) w.heap.size i.args ds gs before hval (DataW.Whole.of_heap (w' := w.forCall tape i) (by rfl) hw) (hz.weights hw) (hX _ _ _ (by rfl) hx) hsh).mono fun e W' ⟨v, he, hp⟩ => ?_
  subst he
  exact ChangeSpec.post_blind hp
theorem star : "*" ++ "errors.errorString" = "*errors.errorString" := by decide
theorem row_err (u : TypeId) (h : Tryd.prog.typeName? 3 u = some "*errors.errorString") : u = 148 :=
  typeName_ptr_named (nm := "errors.errorString") (by rw [star]; kernel_rfl) (by kernel_rfl) (by decide) u (by rw [star]; exact h)
theorem g_errT : (Tryd.prog.globals[5]?).map (·.type) = some 91 := by kernel_rfl
theorem g_errST : (Tryd.prog.globals[4]?).map (·.type) = some 91 := by kernel_rfl
theorem space_tab : (Rows.laid_strings_asciiSpace : DataW Unit) = Lib.tabData .u8 Lib.asciiSpaceTab := by kernel_rfl
def zsOf (d : DataW Unit) : List Int := match d with
  | .agg ps => ps.map fun p => match p with | .lit (.int _ z) => z | _ => 0
  | _ => []
theorem dbr_tab : (Rows.laid_math_bits_deBruijn64tab : DataW Unit) = Lib.tabData .u8 (zsOf Rows.laid_math_bits_deBruijn64tab) := by kernel_rfl
theorem dbr_at : ((zsOf Rows.laid_math_bits_deBruijn64tab).map fun z => Value.int .u8 z).toArray[15]? = some (.int .u8 4) := by kernel_rfl
theorem g_dbr : Tryd.prog.globalNamed "math/bits.deBruijn64tab" = some 7 := by kernel_rfl
theorem p10_tab : (Rows.laid_internal_strconv_uint64pow10 : DataW Unit) = Lib.tabData .u64 Lib.pow10Tab := by kernel_rfl
theorem ga_of_laid {W : World} (h : laidMetH Tryd.prog Rows.asmLinesRow.laid W) (hsh : W.ShapedOpen Tryd.prog) : Ga W := by
  rw [MakeChecks.laidMetH_plain _ _ _ (by kernel_rfl)] at h
  have h1 : laidMet Tryd.prog [("math/bits.deBruijn64tab", Rows.laid_math_bits_deBruijn64tab), ("internal/strconv.uint64pow10", Rows.laid_internal_strconv_uint64pow10), ("unicode/utf8.acceptRanges", Rows.laid_unicode_utf8_acceptRanges), ("strconv.ErrRange", Rows.laid_strconv_ErrRange), ("strconv.ErrSyntax", Rows.laid_strconv_ErrSyntax), ("unicode.White_Space", Rows.laid_unicode_White_Space), ("strings.asciiSpace", Rows.laid_strings_asciiSpace), ("unicode/utf8.first", Rows.laid_unicode_utf8_first)] W := laidMet.tail h
  have h2 := laidMet.tail h1
  have h4 := laidMet.tail (laidMet.tail h2)
  have h5 := laidMet.tail h4
  have h7 := laidMet.tail (laidMet.tail h5)
  rw [space_tab] at h7
  rw [dbr_tab] at h1
  rw [p10_tab] at h2
  obtain ⟨a, s, hv, _⟩ := laid_sentinel h4 g_err g_errT Tryd.underlying91 row_err Tryd.underlying148 Tryd.underlying150 rfl rfl Tryd.underlying9 (by kernel_rfl) (by kernel_rfl)
  obtain ⟨a2, s2, hv2, _⟩ := laid_sentinel h5 g_errS g_errST Tryd.underlying91 row_err Tryd.underlying148 Tryd.underlying150 rfl rfl Tryd.underlying9 (by kernel_rfl) (by kernel_rfl)
  have hdb := Lib.tabIs_of_head g_dbr (by kernel_rfl) Tryd.underlying141 Tryd.underlying5 (by kernel_rfl) (by kernel_rfl) h1
  refine ⟨Lib.tabIs_of_head g_tab (by kernel_rfl) Tryd.underlying59 Tryd.underlying5 (by kernel_rfl) (by kernel_rfl) h7, Lib.tabIs_of_head g_pow (by kernel_rfl) Tryd.underlying116 Tryd.underlying65 (by kernel_rfl) (by kernel_rfl) h2, ⟨_, hv, .inr ⟨_, _, rfl⟩⟩, ⟨_, hv2, .inr ⟨_, _, rfl⟩⟩, ?_, ?_⟩
  · rw [World.var?_cell g_dbr hdb 15]; exact dbr_at
  · exact cell_of_shapedOpen_int (t := 3) (zero := #[.int .i64 0]) hsh (of_decide_eq_true (by kernel_rfl)) (by kernel_rfl) rfl (by kernel_rfl) (by kernel_rfl) Tryd.underlying3
set_option maxRecDepth 100000 in
theorem back_met (os : Os) (args : Array Value) : laidMetH Tryd.prog Rows.asmLinesRow.laid ((World.laidAll Tryd.prog os Rows.asmLinesRow.laid).forCall (fun _ _ => 0) ⟨#[], args, []⟩).memory := by
  rw [MakeChecks.laidMetH_plain _ _ _ (by kernel_rfl)]
  exact laidMet_laidAll _ (by kernel_rfl) (by kernel_rfl)
theorem back_os (os : Os) : (World.laidAll Tryd.prog os Rows.asmLinesRow.laid).os = os := World.laidAll_os _ _ _
end Go.Proofs.YtcckbmmjklahfaaDoor
