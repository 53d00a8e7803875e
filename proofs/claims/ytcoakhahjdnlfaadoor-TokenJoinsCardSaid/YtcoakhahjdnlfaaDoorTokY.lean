/- What of the library's own variables the token package reads; the public ParseUint over the inner one. Conditions: the inner one's answer is known. -/
import Derived.Test.YtcoakhahjdnlfaaDoorTokX1
import Derived.Test.YtcoakhahjdnlfaaDoorShelf
import Derived.Lib.LaidTab
import Derived.Lib.SmallJoins
import Derived.ChangeBears2
namespace Go.Proofs.YtcoakhahjdnlfaaDoor
set_option linter.all false
open Go.RowKit
/-- the table of white space is as it was laid, and there is an error for what is out of range -/
structure Gs (w : World) : Prop where
  tab : Lib.TabIs Tryd.prog w "strings.asciiSpace" .u8 Lib.asciiSpaceTab
  err : ∃ ev, w.var? Tryd.prog "strconv.ErrRange" = some #[ev] ∧ (ev = .nilIface ∨ ∃ te pe, ev = .iface te pe)
theorem g_err : Tryd.prog.globalNamed "strconv.ErrRange" = some 4 := by kernel_rfl
theorem g_tab : Tryd.prog.globalNamed "strings.asciiSpace" = some 0 := by kernel_rfl
theorem Gs.below {w w' : World} (h : Gs w) (hb : Below w.heap.size w w') : Gs w' := by
  obtain ⟨ev, h4, h5⟩ := h.err
  exact ⟨Go.Joins.var_stays g_tab h.tab hb (Nat.le_refl _), ev, Go.Joins.var_stays g_err h4 hb (Nat.le_refl _), h5⟩
theorem Gs.cell {w : World} (h : Gs w) : ∃ ev, w.cell? ⟨4, 0, none⟩ = some ev ∧ (ev = .nilIface ∨ ∃ te pe, ev = .iface te pe) := by
  obtain ⟨ev, h4, h5⟩ := h.err
  exact ⟨ev, by rw [var?_cell g_err h4]; rfl, h5⟩
theorem toErr_any (t : ByteArray) (B bits : Int) (w : World) (hg : Gs w) (hmax : t.size < 4294967281) :
    Calls Tryd.prog 95 #[.string ⟨#[80, 97, 114, 115, 101, 85, 105, 110, 116]⟩, .string t, .int .i64 B, .int .i64 bits, .iface 162 (.int .i64 1)] w fun e w' => (∃ te pe, e = .returned (.iface te pe)) ∧ ∃ g, w' = more w g := by
  obtain ⟨ev, h1, h2⟩ := hg.cell
  refine (Tryd.strconv_toError_range ⟨#[80, 97, 114, 115, 101, 85, 105, 110, 116]⟩ t B bits ev w (by omega) h1 h2).mono ?_
  rintro e w' ⟨N, rfl, _, _, hb⟩
  exact ⟨⟨_, _, rfl⟩, more_of_below hb⟩
theorem pu_of (t : ByteArray) (B bits : Int) (M v : Nat) (w : World) (hg : Gs w) (hmax : t.size < 4294967281)
    (hin : Calls Tryd.prog 94 #[.string t, .int .i64 B, .int .i64 bits] w fun e w' =>
      ((v ≤ M ∧ e = .returned (.tuple #[.int .u64 v, .nilIface])) ∨ (M < v ∧ e = .returned (.tuple #[.int .u64 M, .iface 162 (.int .i64 1)]))) ∧ ∃ g, w' = more w g) :
    Calls Tryd.prog 71 #[.string t, .int .i64 B, .int .i64 bits] w fun e w' =>
      ((v ≤ M ∧ e = .returned (.tuple #[.int .u64 v, .nilIface])) ∨ (M < v ∧ ∃ te pe, e = .returned (.tuple #[.int .u64 M, .iface te pe]))) ∧ ∃ g, w' = more w g := by
  by_cases hv : v ≤ M
  · have hin : Calls Tryd.prog 94 #[.string t, .int .i64 B, .int .i64 bits] w fun e w' => e = .returned (.tuple #[.int .u64 v, .nilIface]) ∧ ∃ g, w' = more w g :=
      hin.mono fun e w' ⟨h1, h2⟩ => ⟨by rcases h1 with h | h; exact h.2; omega, h2⟩
    go_enter Tryd.func71, Tryd.ntmps71
    go_wp2_with (go_at_call 94; refine hin.mono ?_; rintro e w' ⟨rfl, g, rfl⟩)
    go_ret2
    exact ⟨.inl ⟨hv, rfl⟩, _, rfl⟩
  · have hin : Calls Tryd.prog 94 #[.string t, .int .i64 B, .int .i64 bits] w fun e w' => e = .returned (.tuple #[.int .u64 M, .iface 162 (.int .i64 1)]) ∧ ∃ g, w' = more w g :=
      hin.mono fun e w' ⟨h1, h2⟩ => ⟨by rcases h1 with h | h; omega; exact h.2, h2⟩
    go_enter Tryd.func71, Tryd.ntmps71
    go_wp2_with (go_at_call 94; refine hin.mono ?_; rintro e w' ⟨rfl, g, rfl⟩)
    refine (toErr_any t B bits _ (hg.below (by repeat' (first | (with_reducible exact Below.refl _ _) | (with_reducible assumption) | (with_reducible refine below_more ?_ ?_ _) | (with_reducible refine below_drewN ?_ _) | (with_reducible refine Below.drew ?_) | (with_reducible refine Below.alloc ?_ ?_ _) | (with_reducible refine Below.setCell ?_ ?_ _) | go_size | (simp [more_size]; done) | (simp [more_size]; omega)))) hmax).mono ?_
    rintro e w' ⟨⟨te, pe, rfl⟩, g', rfl⟩
    go_wp2
    go_ret2
    exact ⟨.inr ⟨by omega, _, _, rfl⟩, more_of_below (by repeat' (first | (with_reducible exact Below.refl _ _) | (with_reducible assumption) | (with_reducible refine below_more ?_ ?_ _) | (with_reducible refine below_drewN ?_ _) | (with_reducible refine Below.drew ?_) | (with_reducible refine Below.alloc ?_ ?_ _) | (with_reducible refine Below.setCell ?_ ?_ _) | go_size | (simp [more_size]; done) | (simp [more_size]; omega)))⟩
end Go.Proofs.YtcoakhahjdnlfaaDoor
