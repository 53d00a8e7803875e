/- What of the library's own variables the package asm reads, and the library's functions that it calls. Conditions: the variables are as they were laid; texts' sizes are bounded. -/
import Derived.Test.YtcckbmmjklahfaaDoorAsN
import Derived.Test.YtcckbmmjklahfaaDoorAsQ
import Derived.Test.YtcckbmmjklahfaaDoorShelf
import Derived.Lib.LaidTab
import Derived.Lib.SmallJoins
import Derived.ChangeBears2
import Derived.Lib.ItoaNum
import Derived.Lib.AtoiAllCases
import Derived.Lib.Split
import Derived.Lib.Space
namespace Go.Proofs.YtcckbmmjklahfaaDoor
set_option linter.all false
open Go.RowKit
/-- the tables of white space and of powers are as they were laid, the library's errors are there -/
structure Ga (w : World) : Prop where
  tab : Lib.TabIs Tryd.prog w "strings.asciiSpace" .u8 Lib.asciiSpaceTab
  pow : Lib.TabIs Tryd.prog w "internal/strconv.uint64pow10" .u64 Lib.pow10Tab
  errR : ∃ ev, w.var? Tryd.prog "strconv.ErrRange" = some #[ev] ∧ (ev = .nilIface ∨ ∃ te pe, ev = .iface te pe)
  errS : ∃ ev, w.var? Tryd.prog "strconv.ErrSyntax" = some #[ev] ∧ (ev = .nilIface ∨ ∃ te pe, ev = .iface te pe)
  db : w.cell? ⟨7, 15, none⟩ = some (.int .u8 4)
  max : ∃ m, w.cell? ⟨3, 0, none⟩ = some (.int .i64 m)
theorem g_err : Tryd.prog.globalNamed "strconv.ErrRange" = some 5 := by kernel_rfl
theorem g_errS : Tryd.prog.globalNamed "strconv.ErrSyntax" = some 4 := by kernel_rfl
theorem g_tab : Tryd.prog.globalNamed "strings.asciiSpace" = some 0 := by kernel_rfl
theorem g_pow : Tryd.prog.globalNamed "internal/strconv.uint64pow10" = some 2 := by kernel_rfl
theorem Ga.below {w w' : World} (h : Ga w) (hb : Below w.heap.size w w') : Ga w' := by
  obtain ⟨ev, h4, h5⟩ := h.errR
  obtain ⟨ev2, h6, h7⟩ := h.errS
  obtain ⟨m, hm⟩ := h.max
  exact ⟨Go.Joins.var_stays g_tab h.tab hb (Nat.le_refl _), Go.Joins.var_stays g_pow h.pow hb (Nat.le_refl _), ⟨ev, Go.Joins.var_stays g_err h4 hb (Nat.le_refl _), h5⟩, ⟨ev2, Go.Joins.var_stays g_errS h6 hb (Nat.le_refl _), h7⟩,
    (hb.cell (p := ⟨7, 15, none⟩) (World.block_lt_of_cell? _ _ h.db)).trans h.db, m, (hb.cell (p := ⟨3, 0, none⟩) (World.block_lt_of_cell? _ _ hm)).trans hm⟩
theorem Ga.more {w : World} (h : Ga w) (g : Came) : Ga (more w g) := h.below (below_more (Below.refl _ _) (Nat.le_refl _) g)
theorem Ga.alloc {w : World} (h : Ga w) (o : Obj) : Ga (w.alloc o) := h.below ((Below.refl _ _).alloc (Nat.le_refl _) o)
namespace As
theorem below_grow {B : Nat} {a w : World} (h : Below B a w) (hB : B ≤ w.heap.size) (os : Array Obj) : Below B a (Go.Sort.grow w os) :=
  h.trans ⟨rfl, rfl, rfl, by simp [Go.Sort.grow], fun k hk => by simp only [Go.Sort.grow]; rw [Array.getElem?_append_left (by omega)]⟩
/-- the cells that hold words -/
def scs (l : List (List UInt8)) : Array Value := (l.map fun l => Value.string ⟨l.toArray⟩).toArray
theorem scs_at (l : List (List UInt8)) (k : Nat) (h : k < l.length) : (scs l)[k]? = some (.string ⟨l[k].toArray⟩) := by
  simp [scs, h]
end As
abbrev opsText : ByteArray := ⟨#[77, 79, 86, 32, 76, 83, 76, 32, 65, 83, 82, 32, 82, 79, 82, 32, 65, 78, 68, 32, 65, 78, 78, 32, 73, 79, 82, 32, 88, 79, 82, 32, 65, 68, 68, 32, 83, 85, 66, 32, 77, 85, 76, 32, 68, 73, 86]⟩
abbrev condsText : ByteArray := ⟨#[77, 73, 32, 69, 81, 32, 67, 83, 32, 86, 83, 32, 76, 83, 32, 76, 84, 32, 76, 69, 32, 84, 32, 80, 76, 32, 78, 69, 32, 67, 67, 32, 86, 67, 32, 72, 73, 32, 71, 69, 32, 71, 84, 32, 70]⟩
theorem fields_ops (w : World) (hg : Ga w) : Calls Tryd.prog 16 #[.string opsText] w fun e w' => e = .returned (.slice (some ⟨w.heap.size, 0, none⟩) 12 12) ∧ w' = w.alloc (.cells (As.scs As.ops) 9) := by
  refine (Tryd.strings_Fields opsText w (by decide) ?_ hg.tab).mono fun e w' ⟨h1, h2⟩ => ?_
  · intro j b hb
    have : ∀ b ∈ opsText.data.toList, b.toNat < 128 := by decide
    exact this b (List.mem_of_getElem? hb)
  · rw [show Lib.fields opsText.data.toList = As.ops by decide +kernel] at h1 h2
    exact ⟨h1, h2⟩
theorem fields_conds (w : World) (hg : Ga w) : Calls Tryd.prog 16 #[.string condsText] w fun e w' => e = .returned (.slice (some ⟨w.heap.size, 0, none⟩) 16 16) ∧ w' = w.alloc (.cells (As.scs As.conds) 9) := by
  refine (Tryd.strings_Fields condsText w (by decide) ?_ hg.tab).mono fun e w' ⟨h1, h2⟩ => ?_
  · intro j b hb
    have : ∀ b ∈ condsText.data.toList, b.toNat < 128 := by decide
    exact this b (List.mem_of_getElem? hb)
  · rw [show Lib.fields condsText.data.toList = As.conds by decide +kernel] at h1 h2
    exact ⟨h1, h2⟩
theorem itoa_any (n : Int) (h0 : -9223372036854775808 ≤ n) (h1 : n ≤ 9223372036854775807) (w : World) (hg : Ga w) : Calls Tryd.prog 20 #[.int .i64 n] w fun e w' => e = .returned (.string ⟨(Lib.itoa n).toArray⟩) ∧ ∃ g, w' = more w g := by
  refine (Tryd.strconv_Itoa n h0 h1 w hg.pow).mono ?_
  rintro e w' ⟨rfl, k, os, rfl⟩
  exact ⟨rfl, more_of_below (As.below_grow ((below_drewN (Below.refl _ _) k)) (Nat.le_refl _) os)⟩
theorem cut_any (s sep : ByteArray) (w : World) (hs : s.size < 4294967281) (hg : Ga w) :
    Calls Tryd.prog 38 #[.string s, .string sep] w fun e w' => e = .returned (.tuple #[.string ⟨(Lib.cut s.data.toList sep.data.toList).1.toArray⟩, .string ⟨(Lib.cut s.data.toList sep.data.toList).2.1.toArray⟩, .bool (Lib.cut s.data.toList sep.data.toList).2.2]) ∧ ∃ g, w' = more w g := by
  obtain ⟨m, hm⟩ := hg.max
  refine (Tryd.strings_Cut s sep m w hs hm).mono ?_
  rintro e w' ⟨rfl, k, rfl⟩
  exact ⟨rfl, more_of_below (below_drewN (Below.refl _ _) k)⟩
theorem cutp_any (s p : ByteArray) (w : World) :
    Calls Tryd.prog 51 #[.string s, .string p] w fun e w' => e = .returned (.tuple #[.string ⟨(Lib.trimPrefix s.data.toList p.data.toList).toArray⟩, .bool (Lib.hasPrefix s.data.toList p.data.toList)]) ∧ w' = w := Tryd.strings_CutPrefix s p w
theorem split_any (s sep : ByteArray) (w : World) (hg : Ga w) (hs : s.size < 4294967281) (h1 : 1 ≤ sep.size) :
    Calls Tryd.prog 39 #[.string s, .string sep] w fun e w' => e = .returned (.slice (some ⟨w.heap.size, 0, none⟩) (Lib.countB s sep + 1) (Lib.countB s sep + 1)) ∧ w' = w.alloc (.cells ((Lib.splitB sep 0 (Lib.countB s sep) s).map Value.string).toArray 9) := by
  obtain ⟨m, hm⟩ := hg.max
  exact Tryd.strings_Split s sep m w hs hm h1
theorem atoi_any (s : ByteArray) (w : World) (hg : Ga w) (hs : s.size < 4294967281) :
    Calls Tryd.prog 52 #[.string s] w fun e w' => ((∃ v, Lib.atoiAll s.data.toList = .ok v ∧ e = .returned (.tuple #[.int .i64 v, .nilIface])) ∨ ((∀ v, Lib.atoiAll s.data.toList ≠ .ok v) ∧ ∃ v te pe, e = .returned (.tuple #[.int .i64 v, .iface te pe]))) ∧ ∃ g, w' = more w g := by
  cases h : Lib.atoiAll s.data.toList
  case ok v =>
    refine (Tryd.strconv_Atoi_ok s (by omega) v h w).mono ?_
    rintro e w' ⟨rfl, hw⟩
    refine ⟨.inl ⟨v, rfl, rfl⟩, more_of_below ?_⟩
    rcases hw with rfl | ⟨t, rfl⟩
    · exact Below.refl _ _
    · exact Go.Joins.below_bytesWorld _ _ _ _ (Nat.le_refl _)
  case range =>
    obtain ⟨ev, h1, h2⟩ := hg.errR
    refine (Tryd.strconv_Atoi_range s (by omega) h ev w (by have := World.var?_cell g_err h1 0; simpa using this) h2).mono ?_
    rintro e w' ⟨N, rfl, _, _, hb⟩
    exact ⟨.inr ⟨(fun v hv => by cases hv), _, _, _, rfl⟩, more_of_below hb⟩
  · obtain ⟨ev, h1, h2⟩ := hg.errS
    refine (Go.Proofs.Any.strconv_Atoi_syntax Tryd.laysC172 s (by omega) h ev w (by have := World.var?_cell g_errS h1 0; have h3 : w.cell? ⟨4, 0, none⟩ = some ev := (by simpa using this); exact h3) h2).mono ?_
    rintro e w' ⟨N, rfl, _, _, hb⟩
    exact ⟨.inr ⟨(fun v hv => by cases hv), _, _, _, rfl⟩, more_of_below hb⟩
end Go.Proofs.YtcckbmmjklahfaaDoor
