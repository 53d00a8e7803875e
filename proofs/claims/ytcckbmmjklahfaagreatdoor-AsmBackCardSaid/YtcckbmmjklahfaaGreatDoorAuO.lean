/- An argument that is a slice of words, opened as a list. Conditions: none. The laws AsmLists and AsmBack, walked. Conditions: the library's variables are as they were laid; the list reads as a list of words. -/
import Derived.Test.YtcckbmmjklahfaaGreatDoorOpen2W
import Derived.Test.YtcckbmmjklahfaaGreatDoorAuB
import Derived.Test.YtcckbmmjklahfaaGreatDoorAuJ
import Derived.Test.YtcckbmmjklahfaaGreatDoorAuK
import Derived.Test.YtcckbmmjklahfaaGreatDoorAuM
import Derived.Test.YtcckbmmjklahfaaGreatDoorAuN
import Derived.Test.YtcckbmmjklahfaaGreatDoorAtF
namespace Go.Proofs.YtcckbmmjklahfaaGreatDoor
set_option linter.all false
open Go.ChangeShapes Go.WideShapes Go.ChangeAt Go.RowKit Go.Joins Go.Deep
section
variable {H : Type} {enc : TypeId × Value → H} {w : World} {base : Nat} {spare : Nat → Bool} {held : Bool}
set_option maxRecDepth 100000 in
theorem open_words {r : Reach} {b0 : Nat} {v : Value} {d : DataW H} {p : List MemPlace} (hv : Value.okWide Tryz.prog w r b0 30 v) (h : DataW.Trod enc Tryz.prog w base spare held 30 v d p) :
    ∃ xs : List Int, Reads w v xs.length 1 (As.wcells xs) ∧ ∀ x ∈ xs, 0 ≤ x ∧ x < 4294967296 := by
  have h2 : ∃ xs : List Int, Reads w v xs.length 1 (xs.flatMap fun x => [.int .u32 x]) ∧ ∀ x ∈ xs, 0 ≤ x ∧ x < 4294967296 := by
    refine open_reads (size := 1) (fun x : Int => [.int .u32 x]) (fun x => 0 ≤ x ∧ x < 4294967296) Tryz.underlying30 (by kernel_rfl) (by omega) ?_ (fun _ => by simp) hv h
    intro cs n y hl ht
    match cs, hl with
    | [c0], _ =>
      obtain ⟨f, hcf, -, wf⟩ := DataW.trod_int Tryz.underlying23 ht
      simp at hcf
      subst hcf
      exact ⟨f, ⟨Bd.u32_0 wf, Bd.u32_1 wf⟩, rfl⟩
  obtain ⟨xs, h3, h4⟩ := h2
  refine ⟨xs, ?_, h4⟩
  have : (xs.flatMap fun x => [Value.int .u32 x]) = As.wcells xs := by
    clear h3 h4
    induction xs with
    | nil => rfl
    | cons x t ih => simp [As.wcells] at ih ⊢; exact ih
  rw [← this]
  exact h3
end
end Go.Proofs.YtcckbmmjklahfaaGreatDoor

namespace Go.Proofs.YtcckbmmjklahfaaGreatDoor
set_option linter.all false
open Go.RowKit
namespace As
theorem wl_len : ∀ ls : List (List UInt8), (wl ls).1.length ≤ ls.length := by
  intro ls
  induction ls with
  | nil => simp [wl]
  | cons l t ih =>
    simp only [wl]
    split
    · simp; exact ih
    · simp
theorem lns_len : ∀ s : List UInt8, (lns s).1.length = s.count 10 := by
  intro s
  induction s with
  | nil => rfl
  | cons c t ih =>
    simp only [lns]
    split
    · rename_i hc; subst hc; simp [ih]
    · rename_i hc
      rw [List.count_cons_of_ne (by simpa using hc)]
      cases hl : (lns t).1 with
      | nil => rw [hl] at ih; simpa using ih
      | cons l ls => rw [hl] at ih; simpa using ih
theorem words_len (s : List UInt8) : (wordsF s).1.length ≤ 65536 := by
  unfold wordsF
  split
  · simp
  · split
    · have h1 := wl_len (lns s).1
      have h2 := lns_len s
      simp only
      omega
    · simp
theorem reads_form {w : World} {v : Value} {n size : Nat} {xs : List Value} (h : Reads w v n size xs) : ∃ p c, v = .slice p n c := by
  rcases h.2 with ⟨h0, b, c, rfl, _⟩ | ⟨b, off, c, rfl, _⟩
  · rw [h0]; exact ⟨_, _, rfl⟩
  · exact ⟨_, _, rfl⟩
abbrev WordsIs (f : FuncId) (s : ByteArray) (w : World) (ms : List Int) (p c : Int) : Prop := Calls Tryz.prog f #[.string s] w fun e w' => (∃ q d, e = .returned (.tuple #[.slice q ms.length d, .int .i64 p, .int .i64 c]) ∧ Reads w' (.slice q ms.length d) ms.length 1 (wcells ms)) ∧ ∃ g, w' = more w g
theorem words_is {f : FuncId} {s : ByteArray} {w : World} {ms : List Int} {p c : Int} (h : wordsF s.data.toList = (ms, p, c)) (hC : Calls Tryz.prog f #[.string s] w fun e w' => WRet s.data.toList w' e ∧ ∃ g, w' = more w g) : WordsIs f s w ms p c := hC.mono fun e w' ⟨⟨v, he, hr⟩, hw⟩ => ⟨by
  rw [h] at he hr
  obtain ⟨q, d, rfl⟩ := reads_form hr
  exact ⟨q, d, he, hr⟩, hw⟩
end As
theorem keepWords_same (xs : List Int) (v u : Value) (w : World) (hn : xs.length ≤ 1000000000) (hv : Reads w v xs.length 1 (As.wcells xs)) (hu : Reads w u xs.length 1 (As.wcells xs)) :
    Calls Tryz.prog 13 #[v, u] w fun e w' => e = .returned (.bool true) ∧ ∃ g, w' = more w g := by
  have := keepWords_any xs xs v u w hn hn hv hu
  simpa using this
set_option maxRecDepth 100000 in
theorem AsmLists_long (p : Option Addr) (n c : Nat) (s : ByteArray) (w : World) (hg : Ga w) (h : (2000 : Int) < (n : Int)) :
    Calls Tryz.prog 4 #[.slice p n c, .string s] w fun e w' => e = .returned (.bool true) ∧ Below w.heap.size w w' := by
  have HG := Lib.hid hg
  have HK := Lib.hid (fun w hg => wakes_any w hg)
  clear hg
  go_enter Tryz.func4, Tryz.ntmps4
  go_wp2_with (go_at_call 6; (with_reducible refine (HK.out _ HG.out).mono ?_); rintro e w2 ⟨rfl, g, rfl⟩)
  go_ret
  exact ⟨rfl, (by repeat' (first | (with_reducible exact Below.refl _ _) | (with_reducible assumption) | (with_reducible refine below_more ?_ ?_ _) | (with_reducible refine below_drewN ?_ _) | (with_reducible refine Below.drew ?_) | (with_reducible refine Below.alloc ?_ ?_ _) | (with_reducible refine Below.setCell ?_ ?_ _) | go_size | (simp [more_size]; done) | (simp [more_size]; omega)))⟩
set_option maxRecDepth 100000 in
theorem AsmLists_long2 (p : Option Addr) (n c : Nat) (s : ByteArray) (w : World) (hg : Ga w) (h0 : (n : Int) ≤ 2000) (h : (20000 : Int) < (s.size : Int)) :
    Calls Tryz.prog 4 #[.slice p n c, .string s] w fun e w' => e = .returned (.bool true) ∧ Below w.heap.size w w' := by
  have HG := Lib.hid hg
  have HK := Lib.hid (fun w hg => wakes_any w hg)
  clear hg
  go_enter Tryz.func4, Tryz.ntmps4
  go_wp2_with (go_at_call 6; (with_reducible refine (HK.out _ HG.out).mono ?_); rintro e w2 ⟨rfl, g, rfl⟩)
  go_ret
  exact ⟨rfl, (by repeat' (first | (with_reducible exact Below.refl _ _) | (with_reducible assumption) | (with_reducible refine below_more ?_ ?_ _) | (with_reducible refine below_drewN ?_ _) | (with_reducible refine Below.drew ?_) | (with_reducible refine Below.alloc ?_ ?_ _) | (with_reducible refine Below.setCell ?_ ?_ _) | go_size | (simp [more_size]; done) | (simp [more_size]; omega)))⟩
set_option maxRecDepth 100000 in
set_option maxHeartbeats 12800000 in
theorem AsmLists_short (xs : List Int) (p : Option Addr) (n c : Nat) (s : ByteArray) (w : World) (hg : Ga w) (hn : xs.length = n) (h0 : (n : Int) ≤ 2000) (h1 : (s.size : Int) ≤ 20000) (hR : Reads w (.slice p n c) n 1 (As.wcells xs)) (hx : ∀ x ∈ xs, 0 ≤ x ∧ x < 4294967296) :
    Calls Tryz.prog 4 #[.slice p n c, .string s] w fun e w' => e = .returned (.bool true) ∧ Below w.heap.size w w' := by
  obtain ⟨i0, hi, hz0, hz1, hz2⟩ := info_parts info_word
  have HG := Lib.hid hg
  have HK := Lib.hid (fun w hg => wakes_any w hg)
  have HR := Lib.hid hR
  obtain ⟨ms, pl, ec, hws⟩ : ∃ ms pl ec, As.wordsF s.data.toList = (ms, pl, ec) := ⟨_, _, _, rfl⟩
  have hms : ms.length ≤ 65536 := by have := As.words_len s.data.toList; rw [hws] at this; exact this
  have HWp := Lib.hid (fun w hg => As.words_is hws (Words_any s w (by omega) hg))
  have HWr := Lib.hid (fun w => As.words_is hws (rWords_any s w (by omega)))
  subst hn
  have HLp := Lib.hid (fun v w hg hR => Lines_any xs v w (by omega) hg hR hx)
  have HLr := Lib.hid (fun v w hR => rLines_any xs v w (by omega) hR hx)
  have HS := Lib.hid (fun v u w hv hu => keepWords_same xs v u w (by omega) hv hu)
  have HM := Lib.hid (fun v u w hv hu => keepWords_same ms v u w (by omega) hv hu)
  have hwl : (As.wcells xs).length = xs.length := by simp [As.wcells]
  generalize As.linesF xs = T at *
  clear hg hR hx hws hms
  go_enter Tryz.func4, Tryz.ntmps4
  go_wp2_with (at_builtin; go_loud (refine wpList_append_reads rfl _ _ 30 rfl w.heap.size 23 i0 (.int .u32 0) 1 4 Tryz.underlying30 hi hz0 hz1 hz2 rfl (by decide) _ 0 _ rfl (owns_empty w w.heap.size 23 1 (Nat.le_refl _)) _ xs.length (As.wcells xs) rfl (HR.out.alloc _) ?_ ?_ ?_ ?_ ?_; (focus (intro q hq; simp [As.wcells] at hq; obtain ⟨z, _, rfl⟩ := hq; rfl)); (focus (unfold maxLen; omega)); (focus omega); (focus (simp)); intro v' w1 hown' hgrow))
  have HB := Lib.hid (show Below w.heap.size w w1 from below_grown ((Below.refl _ _).alloc (Nat.le_refl _) _) (by simp) hgrow (owns_rows (owns_empty w w.heap.size 23 1 (Nat.le_refl _))))
  replace HR := Lib.hid (HR.out.below HB.out)
  have HI := Lib.hid (show Reads w1 v' xs.length 1 (As.wcells xs) from by have := Reads.of_owns hown'; simpa using this)
  replace HG := Lib.hid (HG.out.below HB.out)
  clear hown' hgrow
  go_wp2_with (first
    | (go_at_call 9; (with_reducible refine (HWp.out _ HG.out).mono ?_); rintro e w4 ⟨⟨q1, d1, rfl, hk⟩, g4, hw4⟩; have hb4 := (show Below _ _ w4 from hw4 ▸ below_more (Below.refl _ _) (Nat.le_refl _) _); replace HB := Lib.hid (HB.out.trans (hb4.mono HB.out.size)); replace HR := Lib.hid (HR.out.below hb4); replace HI := Lib.hid (HI.out.below hb4); replace HG := Lib.hid (HG.out.below hb4); replace hk := Lib.hid hk; clear hw4 hb4)
    | (go_at_call 10; (with_reducible refine (HWr.out _).mono ?_); rintro e w5 ⟨⟨q2, d2, rfl, hm⟩, g5, hw5⟩; have hb5 := (show Below _ _ w5 from hw5 ▸ below_more (Below.refl _ _) (Nat.le_refl _) _); replace HB := Lib.hid (HB.out.trans (hb5.mono HB.out.size)); replace HR := Lib.hid (HR.out.below hb5); replace HI := Lib.hid (HI.out.below hb5); replace HG := Lib.hid (HG.out.below hb5); replace hk := Lib.hid (hk.out.below hb5); replace hm := Lib.hid hm; clear hw5 hb5)
    | (go_at_call 11; (with_reducible refine (HLp.out _ _ HG.out HI.out).mono ?_); rintro e w6 ⟨rfl, g6, rfl⟩)
    | (go_at_call 12; (with_reducible refine (HLr.out _ _ (HR.out.below (by repeat' (first | (with_reducible exact Below.refl _ _) | (with_reducible assumption) | (with_reducible refine below_more ?_ ?_ _) | (with_reducible refine below_drewN ?_ _) | (with_reducible refine Below.drew ?_) | (with_reducible refine Below.alloc ?_ ?_ _) | (with_reducible refine Below.setCell ?_ ?_ _) | go_size | (simp [more_size]; done) | (simp [more_size]; omega))))).mono ?_); rintro e w6 ⟨rfl, g7, rfl⟩)
    | (go_at_call 13; first | ((with_reducible refine (HS.out _ _ _ (HI.out.below (by repeat' (first | (with_reducible exact Below.refl _ _) | (with_reducible assumption) | (with_reducible refine below_more ?_ ?_ _) | (with_reducible refine below_drewN ?_ _) | (with_reducible refine Below.drew ?_) | (with_reducible refine Below.alloc ?_ ?_ _) | (with_reducible refine Below.setCell ?_ ?_ _) | go_size | (simp [more_size]; done) | (simp [more_size]; omega)))) (HR.out.below (by repeat' (first | (with_reducible exact Below.refl _ _) | (with_reducible assumption) | (with_reducible refine below_more ?_ ?_ _) | (with_reducible refine below_drewN ?_ _) | (with_reducible refine Below.drew ?_) | (with_reducible refine Below.alloc ?_ ?_ _) | (with_reducible refine Below.setCell ?_ ?_ _) | go_size | (simp [more_size]; done) | (simp [more_size]; omega))))).mono ?_); rintro e w6 ⟨rfl, g8, rfl⟩) | ((with_reducible refine (HM.out _ _ _ (hk.out.below (by repeat' (first | (with_reducible exact Below.refl _ _) | (with_reducible assumption) | (with_reducible refine below_more ?_ ?_ _) | (with_reducible refine below_drewN ?_ _) | (with_reducible refine Below.drew ?_) | (with_reducible refine Below.alloc ?_ ?_ _) | (with_reducible refine Below.setCell ?_ ?_ _) | go_size | (simp [more_size]; done) | (simp [more_size]; omega)))) (hm.out.below (by repeat' (first | (with_reducible exact Below.refl _ _) | (with_reducible assumption) | (with_reducible refine below_more ?_ ?_ _) | (with_reducible refine below_drewN ?_ _) | (with_reducible refine Below.drew ?_) | (with_reducible refine Below.alloc ?_ ?_ _) | (with_reducible refine Below.setCell ?_ ?_ _) | go_size | (simp [more_size]; done) | (simp [more_size]; omega))))).mono ?_); rintro e w6 ⟨rfl, g9, rfl⟩))
    | (go_at_call 6; (with_reducible refine (HK.out _ (HG.out.below (by repeat' (first | (with_reducible exact Below.refl _ _) | (with_reducible assumption) | (with_reducible refine below_more ?_ ?_ _) | (with_reducible refine below_drewN ?_ _) | (with_reducible refine Below.drew ?_) | (with_reducible refine Below.alloc ?_ ?_ _) | (with_reducible refine Below.setCell ?_ ?_ _) | go_size | (simp [more_size]; done) | (simp [more_size]; omega))))).mono ?_); rintro e w2 ⟨rfl, g, rfl⟩))
  go_ret
  exact ⟨rfl, HB.out.trans (Below.mono (by repeat' (first | (with_reducible exact Below.refl _ _) | (with_reducible assumption) | (with_reducible refine below_more ?_ ?_ _) | (with_reducible refine below_drewN ?_ _) | (with_reducible refine Below.drew ?_) | (with_reducible refine Below.alloc ?_ ?_ _) | (with_reducible refine Below.setCell ?_ ?_ _) | go_size | (simp [more_size]; done) | (simp [more_size]; omega))) HB.out.size)⟩
theorem AsmLists_any (xs : List Int) (v : Value) (s : ByteArray) (w : World) (hg : Ga w) (hR : Reads w v xs.length 1 (As.wcells xs)) (hx : ∀ x ∈ xs, 0 ≤ x ∧ x < 4294967296) :
    Calls Tryz.prog 4 #[v, .string s] w fun e w' => e = .returned (.bool true) ∧ Below w.heap.size w w' := by
  obtain ⟨p, c, rfl⟩ := As.reads_form hR
  by_cases h0 : 2000 < xs.length
  · exact AsmLists_long p _ c s w hg (by omega)
  · by_cases h1 : 20000 < s.size
    · exact AsmLists_long2 p _ c s w hg (by omega) (by omega)
    · exact AsmLists_short xs p _ c s w hg rfl (by omega) (by omega) hR hx
set_option maxRecDepth 100000 in
theorem AsmBack_long (p : Option Addr) (n c : Nat) (s : ByteArray) (w : World) (hg : Ga w) (h : (2000 : Int) < (n : Int)) :
    Calls Tryz.prog 5 #[.slice p n c, .string s] w fun e w' => e = .returned (.bool true) ∧ Below w.heap.size w w' := by
  have HG := Lib.hid hg
  have HK := Lib.hid (fun w hg => wakes_any w hg)
  clear hg
  go_enter Tryz.func5, Tryz.ntmps5
  go_wp2_with (go_at_call 6; (with_reducible refine (HK.out _ HG.out).mono ?_); rintro e w2 ⟨rfl, g, rfl⟩)
  go_ret
  exact ⟨rfl, (by repeat' (first | (with_reducible exact Below.refl _ _) | (with_reducible assumption) | (with_reducible refine below_more ?_ ?_ _) | (with_reducible refine below_drewN ?_ _) | (with_reducible refine Below.drew ?_) | (with_reducible refine Below.alloc ?_ ?_ _) | (with_reducible refine Below.setCell ?_ ?_ _) | go_size | (simp [more_size]; done) | (simp [more_size]; omega)))⟩
set_option maxRecDepth 100000 in
theorem AsmBack_long2 (p : Option Addr) (n c : Nat) (s : ByteArray) (w : World) (hg : Ga w) (h0 : (n : Int) ≤ 2000) (h : (20000 : Int) < (s.size : Int)) :
    Calls Tryz.prog 5 #[.slice p n c, .string s] w fun e w' => e = .returned (.bool true) ∧ Below w.heap.size w w' := by
  have HG := Lib.hid hg
  have HK := Lib.hid (fun w hg => wakes_any w hg)
  clear hg
  go_enter Tryz.func5, Tryz.ntmps5
  go_wp2_with (go_at_call 6; (with_reducible refine (HK.out _ HG.out).mono ?_); rintro e w2 ⟨rfl, g, rfl⟩)
  go_ret
  exact ⟨rfl, (by repeat' (first | (with_reducible exact Below.refl _ _) | (with_reducible assumption) | (with_reducible refine below_more ?_ ?_ _) | (with_reducible refine below_drewN ?_ _) | (with_reducible refine Below.drew ?_) | (with_reducible refine Below.alloc ?_ ?_ _) | (with_reducible refine Below.setCell ?_ ?_ _) | go_size | (simp [more_size]; done) | (simp [more_size]; omega)))⟩
set_option maxRecDepth 100000 in
set_option maxHeartbeats 12800000 in
theorem AsmBack_short (xs : List Int) (p : Option Addr) (n c : Nat) (s : ByteArray) (w : World) (hg : Ga w) (hn : xs.length = n) (h0 : (n : Int) ≤ 2000) (h1 : (s.size : Int) ≤ 20000) (hR : Reads w (.slice p n c) n 1 (As.wcells xs)) (hx : ∀ x ∈ xs, 0 ≤ x ∧ x < 4294967296) :
    Calls Tryz.prog 5 #[.slice p n c, .string s] w fun e w' => e = .returned (.bool true) ∧ Below w.heap.size w w' := by
  obtain ⟨i0, hi, hz0, hz1, hz2⟩ := info_parts info_word
  have HG := Lib.hid hg
  have HK := Lib.hid (fun w hg => wakes_any w hg)
  have HR := Lib.hid hR
  obtain ⟨ms, pl, ec, hws⟩ : ∃ ms pl ec, As.wordsF s.data.toList = (ms, pl, ec) := ⟨_, _, _, rfl⟩
  have hms : ms.length ≤ 65536 := by have := As.words_len s.data.toList; rw [hws] at this; exact this
  have hmb : ∀ z ∈ ms, 0 ≤ z ∧ z < 4294967296 := by have := As.words_bound s.data.toList; rw [hws] at this; exact this
  have HWp := Lib.hid (fun w hg => As.words_is hws (Words_any s w (by omega) hg))
  have HLm := Lib.hid (fun v w hg hR => Lines_any ms v w (by omega) hg hR hmb)
  have hbk : ec = 0 → (⟨(As.linesF ms).toArray⟩ : ByteArray) = s := fun h => by
    have := As.lines_words (s := s.data.toList) (by rw [hws]; exact h)
    rw [hws] at this
    rw [this]
  have hno : ec ≠ 0 → ms = [] := fun h => by
    have := As.words_bad (s := s.data.toList) (by rw [hws]; exact h)
    rw [hws] at this
    exact this
  subst hn
  obtain ⟨T, hT⟩ : ∃ T : ByteArray, T = ⟨(As.linesF xs).toArray⟩ := ⟨_, rfl⟩
  have hTs : T.size < 4294967281 := by
    have := As.linesF_len xs
    rw [hT]
    show (As.linesF xs).toArray.size < _
    simp
    omega
  have hwl2 : As.wordsF T.data.toList = (xs, 0, 0) := by rw [hT]; exact As.words_lines xs hx (by omega)
  have HWt := Lib.hid (fun w hg => As.words_is hwl2 (Words_any T w hTs hg))
  have HLp := Lib.hid (fun v w hg hR => Lines_any xs v w (by omega) hg hR hx)
  rw [← hT] at HLp
  have HS := Lib.hid (fun v u w hv hu => keepWords_same xs v u w (by omega) hv hu)
  have hwl : (As.wcells xs).length = xs.length := by simp [As.wcells]
  clear hg hR hx hws hms hmb hT hTs hwl2
  go_enter Tryz.func5, Tryz.ntmps5
  go_wp2_with (at_builtin; refine wpList_append_reads rfl _ _ 30 rfl w.heap.size 23 i0 (.int .u32 0) 1 4 Tryz.underlying30 hi hz0 hz1 hz2 rfl (by decide) _ 0 _ rfl (owns_empty w w.heap.size 23 1 (Nat.le_refl _)) _ xs.length (As.wcells xs) rfl (HR.out.alloc _) ?_ ?_ ?_ ?_ ?_; (focus (intro q hq; simp [As.wcells] at hq; obtain ⟨z, _, rfl⟩ := hq; rfl)); (focus (unfold maxLen; omega)); (focus omega); (focus (simp)); intro v' w1 hown' hgrow)
  have HB := Lib.hid (show Below w.heap.size w w1 from below_grown ((Below.refl _ _).alloc (Nat.le_refl _) _) (by simp) hgrow (owns_rows (owns_empty w w.heap.size 23 1 (Nat.le_refl _))))
  replace HR := Lib.hid (HR.out.below HB.out)
  have HI := Lib.hid (show Reads w1 v' xs.length 1 (As.wcells xs) from by have := Reads.of_owns hown'; simpa using this)
  replace HG := Lib.hid (HG.out.below HB.out)
  clear hown' hgrow
  by_cases hec : ec = 0
  · subst hec
    have hs := hbk rfl
    rw [hs] at HLm
    clear hbk hno hs
    go_wp2_with (first
      | (go_at_call 11; first | ((with_reducible refine (HLp.out _ _ HG.out HI.out).mono ?_); rintro e w6 ⟨rfl, g6, hw6⟩; have hb6 := (show Below _ _ w6 from hw6 ▸ below_more (Below.refl _ _) (Nat.le_refl _) _); replace HB := Lib.hid (HB.out.trans (hb6.mono HB.out.size)); replace HR := Lib.hid (HR.out.below hb6); replace HG := Lib.hid (HG.out.below hb6); clear hw6 hb6 HI) | ((with_reducible refine (HLm.out _ _ (HG.out.below (by repeat' (first | (with_reducible exact Below.refl _ _) | (with_reducible assumption) | (with_reducible refine below_more ?_ ?_ _) | (with_reducible refine below_drewN ?_ _) | (with_reducible refine Below.drew ?_) | (with_reducible refine Below.alloc ?_ ?_ _) | (with_reducible refine Below.setCell ?_ ?_ _) | go_size | (simp [more_size]; done) | (simp [more_size]; omega)))) (hm.out.below (by repeat' (first | (with_reducible exact Below.refl _ _) | (with_reducible assumption) | (with_reducible refine below_more ?_ ?_ _) | (with_reducible refine below_drewN ?_ _) | (with_reducible refine Below.drew ?_) | (with_reducible refine Below.alloc ?_ ?_ _) | (with_reducible refine Below.setCell ?_ ?_ _) | go_size | (simp [more_size]; done) | (simp [more_size]; omega))))).mono ?_); rintro e w6 ⟨rfl, g7, rfl⟩))
      | (go_at_call 9; first | ((with_reducible refine (HWt.out _ HG.out).mono ?_); rintro e w4 ⟨⟨q1, d1, rfl, hk⟩, g4, hw4⟩; have hb4 := (show Below _ _ w4 from hw4 ▸ below_more (Below.refl _ _) (Nat.le_refl _) _); replace HB := Lib.hid (HB.out.trans (hb4.mono HB.out.size)); replace HR := Lib.hid (HR.out.below hb4); replace HG := Lib.hid (HG.out.below hb4); replace hk := Lib.hid hk; clear hw4 hb4) | ((with_reducible refine (HWp.out _ (HG.out.below (by repeat' (first | (with_reducible exact Below.refl _ _) | (with_reducible assumption) | (with_reducible refine below_more ?_ ?_ _) | (with_reducible refine below_drewN ?_ _) | (with_reducible refine Below.drew ?_) | (with_reducible refine Below.alloc ?_ ?_ _) | (with_reducible refine Below.setCell ?_ ?_ _) | go_size | (simp [more_size]; done) | (simp [more_size]; omega))))).mono ?_); rintro e w5 ⟨⟨q2, d2, rfl, hm⟩, g5, hw5⟩; have hb5 := (show Below _ _ w5 from hw5 ▸ below_more (Below.refl _ _) (Nat.le_refl _) _); replace HB := Lib.hid ((HB.out.trans (Below.mono (by repeat' (first | (with_reducible exact Below.refl _ _) | (with_reducible assumption) | (with_reducible refine below_more ?_ ?_ _) | (with_reducible refine below_drewN ?_ _) | (with_reducible refine Below.drew ?_) | (with_reducible refine Below.alloc ?_ ?_ _) | (with_reducible refine Below.setCell ?_ ?_ _) | go_size | (simp [more_size]; done) | (simp [more_size]; omega))) HB.out.size)).trans (hb5.mono (Nat.le_trans HB.out.size (by first | (simp [more_size]; done) | (simp [more_size]; omega) | omega)))); replace HG := Lib.hid ((HG.out.below (by repeat' (first | (with_reducible exact Below.refl _ _) | (with_reducible assumption) | (with_reducible refine below_more ?_ ?_ _) | (with_reducible refine below_drewN ?_ _) | (with_reducible refine Below.drew ?_) | (with_reducible refine Below.alloc ?_ ?_ _) | (with_reducible refine Below.setCell ?_ ?_ _) | go_size | (simp [more_size]; done) | (simp [more_size]; omega)))).below hb5); replace hm := Lib.hid hm; clear hw5 hb5))
      | (go_at_call 13; (with_reducible refine (HS.out _ _ _ (hk.out.below (by repeat' (first | (with_reducible exact Below.refl _ _) | (with_reducible assumption) | (with_reducible refine below_more ?_ ?_ _) | (with_reducible refine below_drewN ?_ _) | (with_reducible refine Below.drew ?_) | (with_reducible refine Below.alloc ?_ ?_ _) | (with_reducible refine Below.setCell ?_ ?_ _) | go_size | (simp [more_size]; done) | (simp [more_size]; omega)))) (HR.out.below (by repeat' (first | (with_reducible exact Below.refl _ _) | (with_reducible assumption) | (with_reducible refine below_more ?_ ?_ _) | (with_reducible refine below_drewN ?_ _) | (with_reducible refine Below.drew ?_) | (with_reducible refine Below.alloc ?_ ?_ _) | (with_reducible refine Below.setCell ?_ ?_ _) | go_size | (simp [more_size]; done) | (simp [more_size]; omega))))).mono ?_); rintro e w6 ⟨rfl, g8, rfl⟩)
      | (go_at_call 6; (with_reducible refine (HK.out _ (HG.out.below (by repeat' (first | (with_reducible exact Below.refl _ _) | (with_reducible assumption) | (with_reducible refine below_more ?_ ?_ _) | (with_reducible refine below_drewN ?_ _) | (with_reducible refine Below.drew ?_) | (with_reducible refine Below.alloc ?_ ?_ _) | (with_reducible refine Below.setCell ?_ ?_ _) | go_size | (simp [more_size]; done) | (simp [more_size]; omega))))).mono ?_); rintro e w2 ⟨rfl, g, rfl⟩))
    go_ret
    exact ⟨rfl, HB.out.trans (Below.mono (by repeat' (first | (with_reducible exact Below.refl _ _) | (with_reducible assumption) | (with_reducible refine below_more ?_ ?_ _) | (with_reducible refine below_drewN ?_ _) | (with_reducible refine Below.drew ?_) | (with_reducible refine Below.alloc ?_ ?_ _) | (with_reducible refine Below.setCell ?_ ?_ _) | go_size | (simp [more_size]; done) | (simp [more_size]; omega))) HB.out.size)⟩
  · have hm0 := hno hec
    subst hm0
    have hec2 : (ec == 0) = false := by rw [beq_eq_false_iff_ne]; exact hec
    clear hbk hno HLm hec
    go_wp2_with (first
      | (go_at_call 11; ((with_reducible refine (HLp.out _ _ HG.out HI.out).mono ?_); rintro e w6 ⟨rfl, g6, hw6⟩; have hb6 := (show Below _ _ w6 from hw6 ▸ below_more (Below.refl _ _) (Nat.le_refl _) _); replace HB := Lib.hid (HB.out.trans (hb6.mono HB.out.size)); replace HR := Lib.hid (HR.out.below hb6); replace HG := Lib.hid (HG.out.below hb6); clear hw6 hb6 HI))
      | (go_at_call 9; first | ((with_reducible refine (HWt.out _ HG.out).mono ?_); rintro e w4 ⟨⟨q1, d1, rfl, hk⟩, g4, hw4⟩; have hb4 := (show Below _ _ w4 from hw4 ▸ below_more (Below.refl _ _) (Nat.le_refl _) _); replace HB := Lib.hid (HB.out.trans (hb4.mono HB.out.size)); replace HR := Lib.hid (HR.out.below hb4); replace HG := Lib.hid (HG.out.below hb4); replace hk := Lib.hid hk; clear hw4 hb4) | ((with_reducible refine (HWp.out _ (HG.out.below (by repeat' (first | (with_reducible exact Below.refl _ _) | (with_reducible assumption) | (with_reducible refine below_more ?_ ?_ _) | (with_reducible refine below_drewN ?_ _) | (with_reducible refine Below.drew ?_) | (with_reducible refine Below.alloc ?_ ?_ _) | (with_reducible refine Below.setCell ?_ ?_ _) | go_size | (simp [more_size]; done) | (simp [more_size]; omega))))).mono ?_); rintro e w5 ⟨⟨q2, d2, rfl, hm⟩, g5, hw5⟩; have hb5 := (show Below _ _ w5 from hw5 ▸ below_more (Below.refl _ _) (Nat.le_refl _) _); replace HB := Lib.hid ((HB.out.trans (Below.mono (by repeat' (first | (with_reducible exact Below.refl _ _) | (with_reducible assumption) | (with_reducible refine below_more ?_ ?_ _) | (with_reducible refine below_drewN ?_ _) | (with_reducible refine Below.drew ?_) | (with_reducible refine Below.alloc ?_ ?_ _) | (with_reducible refine Below.setCell ?_ ?_ _) | go_size | (simp [more_size]; done) | (simp [more_size]; omega))) HB.out.size)).trans (hb5.mono (Nat.le_trans HB.out.size (by first | (simp [more_size]; done) | (simp [more_size]; omega) | omega)))); replace HG := Lib.hid ((HG.out.below (by repeat' (first | (with_reducible exact Below.refl _ _) | (with_reducible assumption) | (with_reducible refine below_more ?_ ?_ _) | (with_reducible refine below_drewN ?_ _) | (with_reducible refine Below.drew ?_) | (with_reducible refine Below.alloc ?_ ?_ _) | (with_reducible refine Below.setCell ?_ ?_ _) | go_size | (simp [more_size]; done) | (simp [more_size]; omega)))).below hb5); replace hm := Lib.hid hm; clear hw5 hb5))
      | (go_at_call 13; (with_reducible refine (HS.out _ _ _ (hk.out.below (by repeat' (first | (with_reducible exact Below.refl _ _) | (with_reducible assumption) | (with_reducible refine below_more ?_ ?_ _) | (with_reducible refine below_drewN ?_ _) | (with_reducible refine Below.drew ?_) | (with_reducible refine Below.alloc ?_ ?_ _) | (with_reducible refine Below.setCell ?_ ?_ _) | go_size | (simp [more_size]; done) | (simp [more_size]; omega)))) (HR.out.below (by repeat' (first | (with_reducible exact Below.refl _ _) | (with_reducible assumption) | (with_reducible refine below_more ?_ ?_ _) | (with_reducible refine below_drewN ?_ _) | (with_reducible refine Below.drew ?_) | (with_reducible refine Below.alloc ?_ ?_ _) | (with_reducible refine Below.setCell ?_ ?_ _) | go_size | (simp [more_size]; done) | (simp [more_size]; omega))))).mono ?_); rintro e w6 ⟨rfl, g8, rfl⟩)
      | (go_at_call 6; (with_reducible refine (HK.out _ (HG.out.below (by repeat' (first | (with_reducible exact Below.refl _ _) | (with_reducible assumption) | (with_reducible refine below_more ?_ ?_ _) | (with_reducible refine below_drewN ?_ _) | (with_reducible refine Below.drew ?_) | (with_reducible refine Below.alloc ?_ ?_ _) | (with_reducible refine Below.setCell ?_ ?_ _) | go_size | (simp [more_size]; done) | (simp [more_size]; omega))))).mono ?_); rintro e w2 ⟨rfl, g, rfl⟩))
    go_ret
    exact ⟨rfl, HB.out.trans (Below.mono (by repeat' (first | (with_reducible exact Below.refl _ _) | (with_reducible assumption) | (with_reducible refine below_more ?_ ?_ _) | (with_reducible refine below_drewN ?_ _) | (with_reducible refine Below.drew ?_) | (with_reducible refine Below.alloc ?_ ?_ _) | (with_reducible refine Below.setCell ?_ ?_ _) | go_size | (simp [more_size]; done) | (simp [more_size]; omega))) HB.out.size)⟩
theorem AsmBack_any (xs : List Int) (v : Value) (s : ByteArray) (w : World) (hg : Ga w) (hR : Reads w v xs.length 1 (As.wcells xs)) (hx : ∀ x ∈ xs, 0 ≤ x ∧ x < 4294967296) :
    Calls Tryz.prog 5 #[v, .string s] w fun e w' => e = .returned (.bool true) ∧ Below w.heap.size w w' := by
  obtain ⟨p, c, rfl⟩ := As.reads_form hR
  by_cases h0 : 2000 < xs.length
  · exact AsmBack_long p _ c s w hg (by omega)
  · by_cases h1 : 20000 < s.size
    · exact AsmBack_long2 p _ c s w hg (by omega) (by omega)
    · exact AsmBack_short xs p _ c s w hg rfl (by omega) (by omega) hR hx
end Go.Proofs.YtcckbmmjklahfaaGreatDoor
