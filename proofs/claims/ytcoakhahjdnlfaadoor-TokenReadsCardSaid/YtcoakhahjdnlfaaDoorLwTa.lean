/- The walk of the law TokenReads. Conditions: the library's variables are as they were laid; the text is no longer than a text may be. -/
import Derived.Test.YtcoakhahjdnlfaaDoorTokLa
import Derived.Test.YtcoakhahjdnlfaaDoorTokSa
import Derived.Test.YtcoakhahjdnlfaaDoorTokRe
namespace Go.Proofs.YtcoakhahjdnlfaaDoor
set_option linter.all false
open Go.RowKit
theorem rlex_ok {s : ByteArray} {ts : List Tk.Tok} (h : Tk.lexR s = .ok ts) (hs : s.size < 4294967281) (w : World) :
    Calls Tryd.prog 12 #[.string s] w fun e w' => (∃ v, e = .returned (.tuple #[v, .int .i64 0, .int .i64 0]) ∧ Hid (Reads w' v ts.length 4 (Tk.tokCells ts) ∧ ts.length ≤ 6000 ∧ w'.ownsRow w.heap.size 34 4 v ts.length (Tk.tokCells ts))) ∧ ∃ g, w' = more w g :=
  (rlex_any s w hs).mono fun e w' h' => by rw [h] at h'; exact h'
theorem rlex_no {s : ByteArray} {p : Nat} {c : Int} (h : Tk.lexR s = .error (p, c)) (hs : s.size < 4294967281) (w : World) :
    Calls Tryd.prog 12 #[.string s] w fun e w' => e = .returned (.tuple #[.slice none 0 0, .int .i64 p, .int .i64 c]) ∧ ∃ g, w' = more w g :=
  (rlex_any s w hs).mono fun e w' h' => by rw [h] at h'; exact h'
theorem same_at {u v : Value} {ts : List Tk.Tok} (pl : Bool) (w : World) (hu : Reads w u ts.length 4 (Tk.tokCells ts)) (hv : Reads w v ts.length 4 (Tk.tokCells ts)) :
    Calls Tryd.prog 13 #[u, v, .bool pl] w fun e w' => e = .returned (.bool true) ∧ ∃ g, w' = more w g := same_any u v ts ts pl w hu hv rfl
theorem same_nil (pl : Bool) (w : World) :
    Calls Tryd.prog 13 #[.slice none 0 0, .slice none 0 0, .bool pl] w fun e w' => e = .returned (.bool true) ∧ ∃ g, w' = more w g := same_any _ _ [] [] pl w (reads_nil w 4) (reads_nil w 4) rfl
set_option maxRecDepth 100000 in
set_option maxHeartbeats 1600000 in
theorem TokenReads_any (s : ByteArray) (w : World) (hg : Gs w) (hs : s.size ≤ maxLen) :
    Calls Tryd.prog 3 #[.string s] w fun e w' => e = .returned (.bool true) ∧ Below w.heap.size w w' := by
  have HG := Lib.hid hg
  clear hg
  have hs2 : s.size ≤ 9223372036854775807 := by unfold maxLen at hs; omega
  by_cases hbig : 20000 < s.size
  · have hb2 : (20000 : Int) < (s.size : Int) := by omega
    go_enter Tryd.func3, Tryd.ntmps3
    go_wp2_with (go_at_call 10; (with_reducible refine (wakes9_any _ ?_).mono ?_); (focus (exact HG.out.below (by repeat' (first | (with_reducible exact Below.refl _ _) | (with_reducible assumption) | (with_reducible refine below_more ?_ ?_ _) | (with_reducible refine below_drewN ?_ _) | (with_reducible refine Below.drew ?_) | (with_reducible refine Below.alloc ?_ ?_ _) | (with_reducible refine Below.setCell ?_ ?_ _) | go_size | (simp [more_size]; done) | (simp [more_size]; omega))))); rintro e w2 ⟨rfl, g, rfl⟩)
    go_ret
    exact ⟨rfl, (by repeat' (first | (with_reducible exact Below.refl _ _) | (with_reducible assumption) | (with_reducible refine below_more ?_ ?_ _) | (with_reducible refine below_drewN ?_ _) | (with_reducible refine Below.drew ?_) | (with_reducible refine Below.alloc ?_ ?_ _) | (with_reducible refine Below.setCell ?_ ?_ _) | go_size | (simp [more_size]; done) | (simp [more_size]; omega)))⟩
  · have hb2 : (s.size : Int) ≤ 20000 := by omega
    cases hR : Tk.lexR s with
    | error e =>
      obtain ⟨p, c⟩ := e
      have HA := Lib.hid (fun W hg => lex_no hR (by omega) W hg)
      have HB := Lib.hid (fun W => rlex_no hR (by omega) W)
      clear hR hbig
      go_enter Tryd.func3, Tryd.ntmps3
      go_wp2_with (first
        | (go_at_call 11; (with_reducible refine (HA.out _ ?_).mono ?_); (focus (exact HG.out.below (by repeat' (first | (with_reducible exact Below.refl _ _) | (with_reducible assumption) | (with_reducible refine below_more ?_ ?_ _) | (with_reducible refine below_drewN ?_ _) | (with_reducible refine Below.drew ?_) | (with_reducible refine Below.alloc ?_ ?_ _) | (with_reducible refine Below.setCell ?_ ?_ _) | go_size | (simp [more_size]; done) | (simp [more_size]; omega))))); rintro e w2 ⟨rfl, g, rfl⟩)
        | (go_at_call 12; (with_reducible refine (HB.out _).mono ?_); rintro e w2 ⟨rfl, g, rfl⟩)
        | (go_at_call 13; (with_reducible refine (same_nil _ _).mono ?_); rintro e w2 ⟨rfl, g, rfl⟩)
        | (go_at_call 10; (with_reducible refine (wakes9_any _ ?_).mono ?_); (focus (exact HG.out.below (by repeat' (first | (with_reducible exact Below.refl _ _) | (with_reducible assumption) | (with_reducible refine below_more ?_ ?_ _) | (with_reducible refine below_drewN ?_ _) | (with_reducible refine Below.drew ?_) | (with_reducible refine Below.alloc ?_ ?_ _) | (with_reducible refine Below.setCell ?_ ?_ _) | go_size | (simp [more_size]; done) | (simp [more_size]; omega))))); rintro e w2 ⟨rfl, g, rfl⟩))
      go_ret
      exact ⟨rfl, (by repeat' (first | (with_reducible exact Below.refl _ _) | (with_reducible assumption) | (with_reducible refine below_more ?_ ?_ _) | (with_reducible refine below_drewN ?_ _) | (with_reducible refine Below.drew ?_) | (with_reducible refine Below.alloc ?_ ?_ _) | (with_reducible refine Below.setCell ?_ ?_ _) | go_size | (simp [more_size]; done) | (simp [more_size]; omega)))⟩
    | ok ts =>
      have HA := Lib.hid (fun W hg => lex_ok hR (by omega) W hg)
      have HB := Lib.hid (fun W => rlex_ok hR (by omega) W)
      clear hR hbig
      go_enter Tryd.func3, Tryd.ntmps3
      go_wp2_with (first
        | (go_at_call 11; (with_reducible refine (HA.out _ ?_).mono ?_); (focus (exact HG.out.below (by repeat' (first | (with_reducible exact Below.refl _ _) | (with_reducible assumption) | (with_reducible refine below_more ?_ ?_ _) | (with_reducible refine below_drewN ?_ _) | (with_reducible refine Below.drew ?_) | (with_reducible refine Below.alloc ?_ ?_ _) | (with_reducible refine Below.setCell ?_ ?_ _) | go_size | (simp [more_size]; done) | (simp [more_size]; omega))))); rintro e w2 ⟨⟨v1, rfl, HR1⟩, hm1⟩; have hb1 : Below w.heap.size w w2 := (by obtain ⟨g, rfl⟩ := hm1; exact (by repeat' (first | (with_reducible exact Below.refl _ _) | (with_reducible assumption) | (with_reducible refine below_more ?_ ?_ _) | (with_reducible refine below_drewN ?_ _) | (with_reducible refine Below.drew ?_) | (with_reducible refine Below.alloc ?_ ?_ _) | (with_reducible refine Below.setCell ?_ ?_ _) | go_size | (simp [more_size]; done) | (simp [more_size]; omega)))); replace hm1 := Lib.hid hm1; replace hb1 := Lib.hid hb1)
        | (go_at_call 12; (with_reducible refine (HB.out _).mono ?_); rintro e w3 ⟨⟨v2, rfl, HR2⟩, hm2⟩; have hb3 : Below w2.heap.size w2 w3 := (by obtain ⟨g, rfl⟩ := hm2; exact (by repeat' (first | (with_reducible exact Below.refl _ _) | (with_reducible assumption) | (with_reducible refine below_more ?_ ?_ _) | (with_reducible refine below_drewN ?_ _) | (with_reducible refine Below.drew ?_) | (with_reducible refine Below.alloc ?_ ?_ _) | (with_reducible refine Below.setCell ?_ ?_ _) | go_size | (simp [more_size]; done) | (simp [more_size]; omega)))); replace hm2 := Lib.hid hm2; replace hb3 := Lib.hid hb3)
        | (go_at_call 13; go_loud ((with_reducible refine (same_at (ts := ts) _ _ ?_ ?_).mono ?_); (focus (exact HR1.out.1.below hb3.out)); (focus (exact HR2.out.1)); rintro e w4 ⟨rfl, g, rfl⟩))
        | (go_at_call 10; (with_reducible refine (wakes9_any _ ?_).mono ?_); (focus (have q1 := hb1.out; have q2 := hb3.out; have q3 : Below w.heap.size w w3 := q1.trans (q2.mono q1.size); exact HG.out.below (q3.trans (Below.mono (by repeat' (first | (with_reducible exact Below.refl _ _) | (with_reducible assumption) | (with_reducible refine below_more ?_ ?_ _) | (with_reducible refine below_drewN ?_ _) | (with_reducible refine Below.drew ?_) | (with_reducible refine Below.alloc ?_ ?_ _) | (with_reducible refine Below.setCell ?_ ?_ _) | go_size | (simp [more_size]; done) | (simp [more_size]; omega))) q3.size)))); rintro e w5 ⟨rfl, g, rfl⟩))
      go_ret
      have q1 := hb1.out
      have q2 := hb3.out
      have q3 : Below w.heap.size w w3 := q1.trans (q2.mono q1.size)
      exact ⟨rfl, q3.trans (Below.mono (by repeat' (first | (with_reducible exact Below.refl _ _) | (with_reducible assumption) | (with_reducible refine below_more ?_ ?_ _) | (with_reducible refine below_drewN ?_ _) | (with_reducible refine Below.drew ?_) | (with_reducible refine Below.alloc ?_ ?_ _) | (with_reducible refine Below.setCell ?_ ?_ _) | go_size | (simp [more_size]; done) | (simp [more_size]; omega))) q3.size)⟩
end Go.Proofs.YtcoakhahjdnlfaaDoor
