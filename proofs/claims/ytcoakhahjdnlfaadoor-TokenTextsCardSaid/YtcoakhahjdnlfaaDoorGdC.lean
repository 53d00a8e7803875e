/- The walk of the document's Good. Conditions: the text's size is bounded; numbers lie in their bounds. -/
import Derived.Test.YtcoakhahjdnlfaaDoorGdB
import Derived.Test.YtcoakhahjdnlfaaDoorTokI
namespace Go.Proofs.YtcoakhahjdnlfaaDoor
set_option linter.all false
open Go.RowKit
theorem size_none {s : ByteArray} (h : s.data.toList = []) : s.size = 0 := by
  have : s.data.toList.length = s.size := by simp
  rw [← this, h]; rfl
namespace Tk
theorem sign_mem (w : List UInt8) : w ∈ sgs ↔ sign w := by
  unfold sgs sign
  rw [List.mem_append, List.mem_map]
  constructor
  · rintro (h | ⟨c, hc, rfl⟩)
    · exact .inl h
    · exact .inr ⟨c, rfl, hc⟩
  · rintro (h | ⟨c, rfl, hc⟩)
    · exact .inl h
    · exact .inr ⟨c, hc, rfl⟩
theorem good_none {kd : Int} {w : List UInt8} {n : Int} (h3 : kd ≠ 3) (h4 : kd ≠ 4) (hn : n ≠ 0) : ¬ Good kd w n := by
  rintro (⟨_, h, _⟩ | ⟨_, h, _⟩ | ⟨h, _⟩ | ⟨h, _⟩ | ⟨_, h, _⟩ | ⟨_, h, _⟩) <;> omega
theorem good_1 (w : List UInt8) : Good 1 w 0 ↔ (word w && !decide (w ∈ keys)) = true := by
  unfold Good; simp
theorem good_2 (w : List UInt8) : Good 2 w 0 ↔ decide (w ∈ keys) = true := by
  unfold Good; simp
theorem good_3 (w : List UInt8) (n : Int) : Good 3 w n ↔ w = [] ∧ -2147483648 ≤ n ∧ n < 2147483648 := by
  unfold Good; simp
theorem good_4 (w : List UInt8) (n : Int) : Good 4 w n ↔ w = [] ∧ 0 ≤ n ∧ n < 256 := by
  unfold Good; simp
theorem good_5 (w : List UInt8) : Good 5 w 0 ↔ (decide (w.length ≤ 64) && w.all plain) = true := by
  unfold Good; simp
theorem good_6 (w : List UInt8) : Good 6 w 0 ↔ decide (w ∈ sgs) = true := by
  unfold Good; simp [sign_mem]
theorem good_7 {kd : Int} {w : List UInt8} {n : Int} (h1 : kd ≠ 1) (h2 : kd ≠ 2) (h3 : kd ≠ 3) (h4 : kd ≠ 4) (h5 : kd ≠ 5) (h6 : kd ≠ 6) : ¬ Good kd w n := by
  rintro (⟨h, _⟩ | ⟨h, _⟩ | ⟨h, _⟩ | ⟨h, _⟩ | ⟨h, _⟩ | ⟨h, _⟩) <;> omega
/-- what Good returns -/
def GdRet (kd : Int) (w : List UInt8) (n : Int) (e : Ending) : Prop := ∃ b : Bool, e = .returned (.bool b) ∧ (b = true ↔ Good kd w n)
end Tk
set_option maxRecDepth 100000 in
set_option maxHeartbeats 6400000 in
theorem rGood_any (kd n at_ : Int) (tw : ByteArray) (w : World) (hs : tw.size < 4294967281) :
    Calls Tryd.prog 36 #[.agg #[.int .i64 kd, .string tw, .int .i64 n, .int .i64 at_]] w fun e w' => Tk.GdRet kd tw.data.toList n e ∧ ∃ g, w' = more w g := by
  by_cases h3 : kd = 3
  · subst h3
    by_cases hz : tw.size = 0
    · have hse : tw = ⟨#[]⟩ := by apply ByteArray.ext; apply Array.eq_empty_of_size_eq_zero; exact hz
      subst hse
      have HR : ∀ b : Bool, (b = true ↔ (-2147483648 ≤ n ∧ n < 2147483648)) → Tk.GdRet 3 (⟨#[]⟩ : ByteArray).data.toList n (.returned (.bool b)) := fun b hb => ⟨b, rfl, by rw [Tk.good_3]; simpa using hb⟩
      by_cases n0 : -2147483648 ≤ n
      · have HV := Lib.hid (HR (decide (n < 2147483648)) (by simp; intro; exact n0))
        clear HR hz hs
        go_enter Tryd.func36, Tryd.ntmps36
        go_wp2
        go_ret
        exact ⟨HV.out, more_of_below (by repeat' (first | (with_reducible exact Below.refl _ _) | (with_reducible assumption) | (with_reducible refine below_more ?_ ?_ _) | (with_reducible refine below_drewN ?_ _) | (with_reducible refine Below.drew ?_) | (with_reducible refine Below.alloc ?_ ?_ _) | (with_reducible refine Below.setCell ?_ ?_ _) | go_size | (simp [more_size]; done) | (simp [more_size]; omega)))⟩
      · have n0' : n < -2147483648 := by omega
        have HV := Lib.hid (HR false (by simp; intro; omega))
        clear HR hz hs n0
        go_enter Tryd.func36, Tryd.ntmps36
        go_wp2
        go_ret
        exact ⟨HV.out, more_of_below (by repeat' (first | (with_reducible exact Below.refl _ _) | (with_reducible assumption) | (with_reducible refine below_more ?_ ?_ _) | (with_reducible refine below_drewN ?_ _) | (with_reducible refine Below.drew ?_) | (with_reducible refine Below.alloc ?_ ?_ _) | (with_reducible refine Below.setCell ?_ ?_ _) | go_size | (simp [more_size]; done) | (simp [more_size]; omega)))⟩
    · have hsb : (tw.toList == ([] : List UInt8)) = false := ne_bytes (x := tw) (l := []) (by rintro rfl; exact hz rfl)
      have HV := Lib.hid (show Tk.GdRet 3 tw.data.toList n (.returned (.bool false)) from ⟨false, rfl, by
        rw [Tk.good_3]; simp only [Bool.false_eq_true, false_iff]; rintro ⟨h, -⟩; exact hz (size_none h)⟩)
      clear hz hs
      go_enter Tryd.func36, Tryd.ntmps36
      go_wp2
      go_ret
      exact ⟨HV.out, more_of_below (by repeat' (first | (with_reducible exact Below.refl _ _) | (with_reducible assumption) | (with_reducible refine below_more ?_ ?_ _) | (with_reducible refine below_drewN ?_ _) | (with_reducible refine Below.drew ?_) | (with_reducible refine Below.alloc ?_ ?_ _) | (with_reducible refine Below.setCell ?_ ?_ _) | go_size | (simp [more_size]; done) | (simp [more_size]; omega)))⟩
  have e3 : (kd != 3) = true := by simpa using h3
  have e3' : (kd == 3) = false := by simpa using h3
  by_cases h4 : kd = 4
  · subst h4
    by_cases hz : tw.size = 0
    · have hse : tw = ⟨#[]⟩ := by apply ByteArray.ext; apply Array.eq_empty_of_size_eq_zero; exact hz
      subst hse
      have HR : ∀ b : Bool, (b = true ↔ (0 ≤ n ∧ n < 256)) → Tk.GdRet 4 (⟨#[]⟩ : ByteArray).data.toList n (.returned (.bool b)) := fun b hb => ⟨b, rfl, by rw [Tk.good_4]; simpa using hb⟩
      by_cases n0 : 0 ≤ n
      · have HV := Lib.hid (HR (decide (n < 256)) (by simp; intro; exact n0))
        clear HR hz hs
        go_enter Tryd.func36, Tryd.ntmps36
        go_wp2
        go_ret
        exact ⟨HV.out, more_of_below (by repeat' (first | (with_reducible exact Below.refl _ _) | (with_reducible assumption) | (with_reducible refine below_more ?_ ?_ _) | (with_reducible refine below_drewN ?_ _) | (with_reducible refine Below.drew ?_) | (with_reducible refine Below.alloc ?_ ?_ _) | (with_reducible refine Below.setCell ?_ ?_ _) | go_size | (simp [more_size]; done) | (simp [more_size]; omega)))⟩
      · have n0' : n < 0 := by omega
        have HV := Lib.hid (HR false (by simp; intro; omega))
        clear HR hz hs n0
        go_enter Tryd.func36, Tryd.ntmps36
        go_wp2
        go_ret
        exact ⟨HV.out, more_of_below (by repeat' (first | (with_reducible exact Below.refl _ _) | (with_reducible assumption) | (with_reducible refine below_more ?_ ?_ _) | (with_reducible refine below_drewN ?_ _) | (with_reducible refine Below.drew ?_) | (with_reducible refine Below.alloc ?_ ?_ _) | (with_reducible refine Below.setCell ?_ ?_ _) | go_size | (simp [more_size]; done) | (simp [more_size]; omega)))⟩
    · have hsb : (tw.toList == ([] : List UInt8)) = false := ne_bytes (x := tw) (l := []) (by rintro rfl; exact hz rfl)
      have HV := Lib.hid (show Tk.GdRet 4 tw.data.toList n (.returned (.bool false)) from ⟨false, rfl, by
        rw [Tk.good_4]; simp only [Bool.false_eq_true, false_iff]; rintro ⟨h, -⟩; exact hz (size_none h)⟩)
      clear hz hs
      go_enter Tryd.func36, Tryd.ntmps36
      go_wp2
      go_ret
      exact ⟨HV.out, more_of_below (by repeat' (first | (with_reducible exact Below.refl _ _) | (with_reducible assumption) | (with_reducible refine below_more ?_ ?_ _) | (with_reducible refine below_drewN ?_ _) | (with_reducible refine Below.drew ?_) | (with_reducible refine Below.alloc ?_ ?_ _) | (with_reducible refine Below.setCell ?_ ?_ _) | go_size | (simp [more_size]; done) | (simp [more_size]; omega)))⟩
  have e4 : (kd != 4) = true := by simpa using h4
  have e4' : (kd == 4) = false := by simpa using h4
  by_cases hn : n = 0
  · subst hn
    have HN := Lib.hid (fun W => rName_any tw W hs)
    have HK := Lib.hid (fun W => rKey_any tw W)
    have HS := Lib.hid (fun W => rString_any tw W hs)
    have H5 := Lib.hid (Tk.good_5 tw.data.toList)
    generalize (decide (tw.data.toList.length ≤ 64) && tw.data.toList.all Tk.plain) = b5 at HS H5
    have HG := Lib.hid (fun W => rSign_any tw W)
    by_cases h1 : kd = 1
    · subst h1
      clear h3 h4 hs
      go_enter Tryd.func36, Tryd.ntmps36
      go_wp2_with (go_at_call 66; (with_reducible refine (HN.out _).mono ?_); rintro e w2 ⟨rfl, g, rfl⟩)
      go_ret
      exact ⟨⟨_, rfl, (Tk.good_1 _).symm⟩, more_of_below (by repeat' (first | (with_reducible exact Below.refl _ _) | (with_reducible assumption) | (with_reducible refine below_more ?_ ?_ _) | (with_reducible refine below_drewN ?_ _) | (with_reducible refine Below.drew ?_) | (with_reducible refine Below.alloc ?_ ?_ _) | (with_reducible refine Below.setCell ?_ ?_ _) | go_size | (simp [more_size]; done) | (simp [more_size]; omega)))⟩
    have e5 : (kd == 1) = false := by simpa using h1
    by_cases h2 : kd = 2
    · subst h2
      clear h3 h4 hs
      go_enter Tryd.func36, Tryd.ntmps36
      go_wp2_with (go_at_call 49; (with_reducible refine (HK.out _).mono ?_); rintro e w2 ⟨rfl, g, rfl⟩)
      go_ret
      exact ⟨⟨_, rfl, (Tk.good_2 _).symm⟩, more_of_below (by repeat' (first | (with_reducible exact Below.refl _ _) | (with_reducible assumption) | (with_reducible refine below_more ?_ ?_ _) | (with_reducible refine below_drewN ?_ _) | (with_reducible refine Below.drew ?_) | (with_reducible refine Below.alloc ?_ ?_ _) | (with_reducible refine Below.setCell ?_ ?_ _) | go_size | (simp [more_size]; done) | (simp [more_size]; omega)))⟩
    have e6 : (kd == 2) = false := by simpa using h2
    by_cases h5 : kd = 5
    · subst h5
      clear h3 h4 hs
      go_enter Tryd.func36, Tryd.ntmps36
      go_wp2_with (go_at_call 67; (with_reducible refine (HS.out _).mono ?_); rintro e w2 ⟨rfl, g, rfl⟩)
      go_ret
      exact ⟨⟨_, rfl, H5.out.symm⟩, more_of_below (by repeat' (first | (with_reducible exact Below.refl _ _) | (with_reducible assumption) | (with_reducible refine below_more ?_ ?_ _) | (with_reducible refine below_drewN ?_ _) | (with_reducible refine Below.drew ?_) | (with_reducible refine Below.alloc ?_ ?_ _) | (with_reducible refine Below.setCell ?_ ?_ _) | go_size | (simp [more_size]; done) | (simp [more_size]; omega)))⟩
    have e7 : (kd == 5) = false := by simpa using h5
    by_cases h6 : kd = 6
    · subst h6
      clear h3 h4 hs
      go_enter Tryd.func36, Tryd.ntmps36
      go_wp2_with (go_at_call 51; (with_reducible refine (HG.out _).mono ?_); rintro e w2 ⟨rfl, g, rfl⟩)
      go_ret
      exact ⟨⟨_, rfl, (Tk.good_6 _).symm⟩, more_of_below (by repeat' (first | (with_reducible exact Below.refl _ _) | (with_reducible assumption) | (with_reducible refine below_more ?_ ?_ _) | (with_reducible refine below_drewN ?_ _) | (with_reducible refine Below.drew ?_) | (with_reducible refine Below.alloc ?_ ?_ _) | (with_reducible refine Below.setCell ?_ ?_ _) | go_size | (simp [more_size]; done) | (simp [more_size]; omega)))⟩
    have e8 : (kd == 6) = false := by simpa using h6
    have HV := Lib.hid (show Tk.GdRet kd tw.data.toList 0 (.returned (.bool false)) from ⟨false, rfl, by simpa using Tk.good_7 h1 h2 h3 h4 h5 h6⟩)
    clear h1 h2 h3 h4 h5 h6 hs
    go_enter Tryd.func36, Tryd.ntmps36
    go_wp2
    go_ret
    exact ⟨HV.out, more_of_below (by repeat' (first | (with_reducible exact Below.refl _ _) | (with_reducible assumption) | (with_reducible refine below_more ?_ ?_ _) | (with_reducible refine below_drewN ?_ _) | (with_reducible refine Below.drew ?_) | (with_reducible refine Below.alloc ?_ ?_ _) | (with_reducible refine Below.setCell ?_ ?_ _) | go_size | (simp [more_size]; done) | (simp [more_size]; omega)))⟩
  · have e9 : (n != 0) = true := by simpa using hn
    have HV := Lib.hid (show Tk.GdRet kd tw.data.toList n (.returned (.bool false)) from ⟨false, rfl, by simpa using Tk.good_none h3 h4 hn⟩)
    clear h3 h4 hn hs
    go_enter Tryd.func36, Tryd.ntmps36
    go_wp2
    go_ret
    exact ⟨HV.out, more_of_below (by repeat' (first | (with_reducible exact Below.refl _ _) | (with_reducible assumption) | (with_reducible refine below_more ?_ ?_ _) | (with_reducible refine below_drewN ?_ _) | (with_reducible refine Below.drew ?_) | (with_reducible refine Below.alloc ?_ ?_ _) | (with_reducible refine Below.setCell ?_ ?_ _) | go_size | (simp [more_size]; done) | (simp [more_size]; omega)))⟩
end Go.Proofs.YtcoakhahjdnlfaaDoor
