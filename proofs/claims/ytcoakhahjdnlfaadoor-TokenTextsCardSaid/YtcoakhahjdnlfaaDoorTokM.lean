/- The walks of token's word, signs and HasPrefix at a sign. Conditions: the lexer's record lies in the world; the library's table is as it was laid. -/
import Derived.Test.YtcoakhahjdnlfaaDoorTokZ
import Derived.Maps.OwnOps
namespace Go.Proofs.YtcoakhahjdnlfaaDoor
set_option linter.all false
open Go.RowKit
namespace Tk
/-- a word's kind, text and error -/
def wres (s : ByteArray) : Int × ByteArray × Int := if s.data.toList ∈ keys then (2, s, 0) else if 24 < s.size then (0, ⟨#[]⟩, 2) else (1, s, 0)
end Tk
theorem word_any (s : ByteArray) (x b1 b2 b3 b4 m : Nat) (w : World) (hs : s.size < 4294967281) (hL : Tk.Lx w x b1 b2 b3 b4 m) :
    Calls Tryd.prog 42 #[.pointer (some ⟨x, 0, none⟩), .string s] w fun e w' => e = .returned (.tuple #[Tk.tv (Tk.wres s).1 (Tk.wres s).2.1 0 0, .int .i64 (Tk.wres s).2.2]) ∧ ∃ g, w' = more w g := by
  have x0 := hL.x0
  have c5 := hL.c5
  have HK := Lib.hid hL.ks
  clear hL
  by_cases hk : s.data.toList ∈ Tk.keys
  · have hw : Tk.wres s = (2, s, 0) := by simp [Tk.wres, hk]
    rw [hw]
    have hn : (if s.data.toList ∈ Tk.keys then (1 : Int) else 0) = 1 := if_pos hk
    replace hn := Lib.hid hn
    clear hw hk
    go_enter Tryd.func42, Tryd.ntmps42
    go_wp2_with (at_lookup; refine wpList_keys_look rfl _ _ 72 rfl (HK.out.below (B := w.heap.size) (by repeat' (first | (with_reducible exact Below.refl _ _) | (with_reducible assumption) | (with_reducible refine below_more ?_ ?_ _) | (with_reducible refine below_drewN ?_ _) | (with_reducible refine Below.drew ?_) | (with_reducible refine Below.alloc ?_ ?_ _) | (with_reducible refine Below.setCell ?_ ?_ _) | go_size | (simp [more_size]; done) | (simp [more_size]; omega))) HK.out.lt) rfl rfl Tryd.underlying72 Tryd.underlying9 (by kernel_rfl) hn.out ?_)
    go_returns
    exact ⟨rfl, more_of_below (by repeat' (first | (with_reducible exact Below.refl _ _) | (with_reducible assumption) | (with_reducible refine below_more ?_ ?_ _) | (with_reducible refine below_drewN ?_ _) | (with_reducible refine Below.drew ?_) | (with_reducible refine Below.alloc ?_ ?_ _) | (with_reducible refine Below.setCell ?_ ?_ _) | go_size | (simp [more_size]; done) | (simp [more_size]; omega)))⟩
  · have hn : (if s.data.toList ∈ Tk.keys then (1 : Int) else 0) = 0 := if_neg hk
    replace hn := Lib.hid hn
    by_cases hl : 24 < s.size
    · have hw : Tk.wres s = (0, ⟨#[]⟩, 2) := by simp [Tk.wres, hk, hl]
      rw [hw]
      clear hw hk
      go_enter Tryd.func42, Tryd.ntmps42
      go_wp2_with (at_lookup; refine wpList_keys_look rfl _ _ 72 rfl (HK.out.below (B := w.heap.size) (by repeat' (first | (with_reducible exact Below.refl _ _) | (with_reducible assumption) | (with_reducible refine below_more ?_ ?_ _) | (with_reducible refine below_drewN ?_ _) | (with_reducible refine Below.drew ?_) | (with_reducible refine Below.alloc ?_ ?_ _) | (with_reducible refine Below.setCell ?_ ?_ _) | go_size | (simp [more_size]; done) | (simp [more_size]; omega))) HK.out.lt) rfl rfl Tryd.underlying72 Tryd.underlying9 (by kernel_rfl) hn.out ?_)
      go_returns
      exact ⟨rfl, more_of_below (by repeat' (first | (with_reducible exact Below.refl _ _) | (with_reducible assumption) | (with_reducible refine below_more ?_ ?_ _) | (with_reducible refine below_drewN ?_ _) | (with_reducible refine Below.drew ?_) | (with_reducible refine Below.alloc ?_ ?_ _) | (with_reducible refine Below.setCell ?_ ?_ _) | go_size | (simp [more_size]; done) | (simp [more_size]; omega)))⟩
    · have hw : Tk.wres s = (1, s, 0) := by simp [Tk.wres, hk, hl]
      rw [hw]
      clear hw hk
      go_enter Tryd.func42, Tryd.ntmps42
      go_wp2_with (at_lookup; refine wpList_keys_look rfl _ _ 72 rfl (HK.out.below (B := w.heap.size) (by repeat' (first | (with_reducible exact Below.refl _ _) | (with_reducible assumption) | (with_reducible refine below_more ?_ ?_ _) | (with_reducible refine below_drewN ?_ _) | (with_reducible refine Below.drew ?_) | (with_reducible refine Below.alloc ?_ ?_ _) | (with_reducible refine Below.setCell ?_ ?_ _) | go_size | (simp [more_size]; done) | (simp [more_size]; omega))) HK.out.lt) rfl rfl Tryd.underlying72 Tryd.underlying9 (by kernel_rfl) hn.out ?_)
      go_returns
      exact ⟨rfl, more_of_below (by repeat' (first | (with_reducible exact Below.refl _ _) | (with_reducible assumption) | (with_reducible refine below_more ?_ ?_ _) | (with_reducible refine below_drewN ?_ _) | (with_reducible refine Below.drew ?_) | (with_reducible refine Below.alloc ?_ ?_ _) | (with_reducible refine Below.setCell ?_ ?_ _) | go_size | (simp [more_size]; done) | (simp [more_size]; omega)))⟩
/-- the signs in a row, with blanks between -/
def signText : ByteArray := ⟨#[58, 61, 32, 46, 46, 32, 60, 61, 32, 62, 61, 32, 43, 32, 45, 32, 42, 32, 47, 32, 38, 32, 126, 32, 46, 32, 44, 32, 59, 32, 124, 32, 40, 32, 91, 32, 123, 32, 94, 32, 61, 32, 35, 32, 60, 32, 62, 32, 58, 32, 41, 32, 93, 32, 125]⟩
theorem sign_fields : Lib.fields signText.data.toList = Tk.sgs := by decide +kernel
theorem sign_ascii : ∀ (j : Nat) b, signText.data.toList[j]? = some b → b.toNat < 128 := by
  intro j b hb
  have : signText.data.toList.all (fun b => decide (b.toNat < 128)) = true := by decide +kernel
  have := List.all_eq_true.1 this b (List.mem_of_getElem? hb)
  simpa using this
/-- the cells that hold words -/
def strCells (l : List (List UInt8)) : Array Value := (l.map fun l => Value.string ⟨l.toArray⟩).toArray
theorem signs_any (w : World) (hg : Gs w) :
    Calls Tryd.prog 45 #[] w fun e w' => e = .returned (.slice (some ⟨w.heap.size, 0, none⟩) 26 26) ∧ w' = w.alloc (.cells (strCells Tk.sgs) 9) := by
  have hf : Calls Tryd.prog 39 #[.string signText] w fun e w' => e = .returned (.slice (some ⟨w.heap.size, 0, none⟩) 26 26) ∧ w' = w.alloc (.cells (strCells Tk.sgs) 9) :=
    (Tryd.strings_Fields signText w (by decide) sign_ascii hg.tab).mono fun e w' ⟨h1, h2⟩ => by
      rw [sign_fields] at h1 h2
      exact ⟨h1, h2⟩
  replace hf := Lib.hid hf
  go_enter Tryd.func45, Tryd.ntmps45
  go_wp2_with (go_at_call 39; refine hf.out.mono ?_; rintro e w' ⟨rfl, rfl⟩)
  go_ret
  exact ⟨rfl, rfl⟩
theorem strCells_at (l : List (List UInt8)) (k : Nat) (h : k < l.length) : (strCells l)[k]? = some (.string ⟨l[k].toArray⟩) := by
  simp [strCells, h]
theorem hp_beg {s : ByteArray} {l : List UInt8} {b : Bool} (h : Tk.beg s.data.toList l = b) (w : World) :
    Calls Tryd.prog 21 #[.string s, .string ⟨l.toArray⟩] w fun e w' => e = .returned (.bool b) ∧ w' = w :=
  hp_any (by rw [Tk.hp_take]; simpa [Tk.beg] using h) w
end Go.Proofs.YtcoakhahjdnlfaaDoor
