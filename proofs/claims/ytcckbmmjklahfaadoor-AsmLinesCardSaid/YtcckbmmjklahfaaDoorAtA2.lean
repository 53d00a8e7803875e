/- The walk of the document's Line: form 2, by its flags. Conditions: the word is one. The walk of the document's Line: form 3, by its flags. Conditions: the word is one. -/
import Derived.Test.YtcckbmmjklahfaaDoorAsL
import Derived.Test.YtcckbmmjklahfaaDoorAsX
import Derived.Test.YtcckbmmjklahfaaDoorRegG
import Derived.BigQuiet
namespace Go.Proofs.YtcckbmmjklahfaaDoor
set_option linter.all false
open Go.RowKit
set_option maxRecDepth 100000 in
set_option maxHeartbeats 3200000 in
theorem rline2ff_any (z : Int)  (a b n : Int) (w : World)  (Ra : ByteArray) (ha : Ra.size ≤ 12) (Ha : Hid (∀ w, Calls Tryd.prog 11 #[.int .i64 a] w fun e w2 => e = .returned (.string Ra) ∧ ∃ g, w2 = more w g)) (Rb : ByteArray) (hb : Rb.size ≤ 12) (Hb : Hid (∀ w, Calls Tryd.prog 11 #[.int .i64 b] w fun e w2 => e = .returned (.string Rb) ∧ ∃ g, w2 = more w g)) (Rn : ByteArray) (hn : Rn.size ≤ 12) (Hn : Hid (∀ w, Calls Tryd.prog 12 #[.int .i64 n] w fun e w2 => e = .returned (.string Rn) ∧ ∃ g, w2 = more w g)) 
    (HD : Hid (∀ w, Calls Tryd.prog 9 #[.int .u32 z] w fun e w' => e = .returned (.tuple #[.agg #[.int .i64 2, .bool false, .bool false, .int .i64 a, .int .i64 b, .int .i64 0, .int .i64 0, .int .i64 n], .int .i64 0]) ∧ ∃ g, w' = more w g)) :
    Calls Tryd.prog 5 #[.int .u32 z] w fun e w' => e = .returned (.tuple #[.string ((⟨#[76, 68]⟩ ++ ⟨#[82]⟩) ++ ⟨#[32]⟩ ++ Ra ++ ⟨#[44, 32]⟩ ++ Rb ++ ⟨#[44, 32]⟩ ++ Rn), .int .i64 0]) ∧ ∃ g, w' = more w g := by
  go_enter Tryd.func5, Tryd.ntmps5
  go_wp2_with (go_at_call 9; (with_reducible refine (HD.out _).mono ?_); rintro e w2 ⟨rfl, g, rfl⟩)
  obtain ⟨bx, hbx⟩ : ∃ bx, bx = w.heap.size + g.o.size := ⟨_, rfl⟩
  have hc : ∀ (j : Nat) (xv : Value), (#[Value.int .i64 2, .bool false, .bool false, .int .i64 a, .int .i64 b, .int .i64 0, .int .i64 0, .int .i64 n] : Array Value)[j]? = some xv → ((more w g).alloc (.cells #[.int .i64 2, .bool false, .bool false, .int .i64 a, .int .i64 b, .int .i64 0, .int .i64 0, .int .i64 n] 33)).cell? ⟨bx, j, none⟩ = some xv := fun j xv h => by
    rw [hbx]
    have := (MapKept.heap_alloc (more w g) (.cells #[.int .i64 2, .bool false, .bool false, .int .i64 a, .int .i64 b, .int .i64 0, .int .i64 0, .int .i64 n] 33 (0, 0))).1
    rw [more_size] at this
    rw [cell_of_row _ _ _ _ _ _ this]; exact h
  have y0 := hc 0 _ rfl
  have y1 := hc 1 _ rfl
  have y2 := hc 2 _ rfl
  have y3 := hc 3 _ rfl
  have y4 := hc 4 _ rfl
  have y5 := hc 5 _ rfl
  have y6 := hc 6 _ rfl
  have y7 := hc 7 _ rfl
  rw [← hbx]
  have ybx : bx < ((more w g).alloc (.cells #[.int .i64 2, .bool false, .bool false, .int .i64 a, .int .i64 b, .int .i64 0, .int .i64 0, .int .i64 n] 33)).heap.size := by rw [As.sz3, more_size]; omega
  clear hc hbx
  have HBW : Below w.heap.size w ((more w g).alloc (.cells #[.int .i64 2, .bool false, .bool false, .int .i64 a, .int .i64 b, .int .i64 0, .int .i64 0, .int .i64 n] 33)) := (by repeat' (first | (with_reducible exact Below.refl _ _) | (with_reducible assumption) | (with_reducible refine below_more ?_ ?_ _) | (with_reducible refine below_drewN ?_ _) | (with_reducible refine Below.drew ?_) | (with_reducible refine Below.alloc ?_ ?_ _) | (with_reducible refine Below.setCell ?_ ?_ _) | go_size | (simp [more_size]; done) | (simp [more_size]; omega)))
  generalize ((more w g).alloc (.cells #[.int .i64 2, .bool false, .bool false, .int .i64 a, .int .i64 b, .int .i64 0, .int .i64 0, .int .i64 n] 33)) = W at *
  replace HBW := Lib.hid HBW
  go_wp2_with fail
  refine wp_region_more (by kernel_rfl) (by kernel_rfl) ?_
  repeat (first | go_big_quiet_skip | (go_big_quiet_want; go_big_quiet_op; first | go_big_quiet_on | (apply Exists.intro; refine ⟨fun _ => ?_, ?_⟩; (focus (first | (go_at_call 11; exact mo_in (Ha.out _)) | (go_at_call 11; exact mo_in (Hb.out _)) | (go_at_call 12; exact mo_in (Hn.out _)))); go_big_quiet_on)))
  refine wpQuiet_nil ?_
  intro _ hw'
  obtain ⟨gq, rfl⟩ := hw'
  go_wp2
  go_ret2
  exact ⟨rfl, more_of_below (HBW.out.trans (by have hws := HBW.out.size; exact (by repeat' (first | (with_reducible exact Below.refl _ _) | (with_reducible assumption) | (with_reducible refine below_more ?_ ?_ _) | (with_reducible refine below_drewN ?_ _) | (with_reducible refine Below.drew ?_) | (with_reducible refine Below.alloc ?_ ?_ _) | (with_reducible refine Below.setCell ?_ ?_ _) | go_size | (simp [more_size]; done) | (simp [more_size]; omega)))))⟩
set_option maxRecDepth 100000 in
set_option maxHeartbeats 3200000 in
theorem rline2tf_any (z : Int)  (a b n : Int) (w : World)  (Ra : ByteArray) (ha : Ra.size ≤ 12) (Ha : Hid (∀ w, Calls Tryd.prog 11 #[.int .i64 a] w fun e w2 => e = .returned (.string Ra) ∧ ∃ g, w2 = more w g)) (Rb : ByteArray) (hb : Rb.size ≤ 12) (Hb : Hid (∀ w, Calls Tryd.prog 11 #[.int .i64 b] w fun e w2 => e = .returned (.string Rb) ∧ ∃ g, w2 = more w g)) (Rn : ByteArray) (hn : Rn.size ≤ 12) (Hn : Hid (∀ w, Calls Tryd.prog 12 #[.int .i64 n] w fun e w2 => e = .returned (.string Rn) ∧ ∃ g, w2 = more w g)) 
    (HD : Hid (∀ w, Calls Tryd.prog 9 #[.int .u32 z] w fun e w' => e = .returned (.tuple #[.agg #[.int .i64 2, .bool true, .bool false, .int .i64 a, .int .i64 b, .int .i64 0, .int .i64 0, .int .i64 n], .int .i64 0]) ∧ ∃ g, w' = more w g)) :
    Calls Tryd.prog 5 #[.int .u32 z] w fun e w' => e = .returned (.tuple #[.string ((⟨#[83, 84]⟩ ++ ⟨#[82]⟩) ++ ⟨#[32]⟩ ++ Ra ++ ⟨#[44, 32]⟩ ++ Rb ++ ⟨#[44, 32]⟩ ++ Rn), .int .i64 0]) ∧ ∃ g, w' = more w g := by
  go_enter Tryd.func5, Tryd.ntmps5
  go_wp2_with (go_at_call 9; (with_reducible refine (HD.out _).mono ?_); rintro e w2 ⟨rfl, g, rfl⟩)
  obtain ⟨bx, hbx⟩ : ∃ bx, bx = w.heap.size + g.o.size := ⟨_, rfl⟩
  have hc : ∀ (j : Nat) (xv : Value), (#[Value.int .i64 2, .bool true, .bool false, .int .i64 a, .int .i64 b, .int .i64 0, .int .i64 0, .int .i64 n] : Array Value)[j]? = some xv → ((more w g).alloc (.cells #[.int .i64 2, .bool true, .bool false, .int .i64 a, .int .i64 b, .int .i64 0, .int .i64 0, .int .i64 n] 33)).cell? ⟨bx, j, none⟩ = some xv := fun j xv h => by
    rw [hbx]
    have := (MapKept.heap_alloc (more w g) (.cells #[.int .i64 2, .bool true, .bool false, .int .i64 a, .int .i64 b, .int .i64 0, .int .i64 0, .int .i64 n] 33 (0, 0))).1
    rw [more_size] at this
    rw [cell_of_row _ _ _ _ _ _ this]; exact h
  have y0 := hc 0 _ rfl
  have y1 := hc 1 _ rfl
  have y2 := hc 2 _ rfl
  have y3 := hc 3 _ rfl
  have y4 := hc 4 _ rfl
  have y5 := hc 5 _ rfl
  have y6 := hc 6 _ rfl
  have y7 := hc 7 _ rfl
  rw [← hbx]
  have ybx : bx < ((more w g).alloc (.cells #[.int .i64 2, .bool true, .bool false, .int .i64 a, .int .i64 b, .int .i64 0, .int .i64 0, .int .i64 n] 33)).heap.size := by rw [As.sz3, more_size]; omega
  clear hc hbx
  have HBW : Below w.heap.size w ((more w g).alloc (.cells #[.int .i64 2, .bool true, .bool false, .int .i64 a, .int .i64 b, .int .i64 0, .int .i64 0, .int .i64 n] 33)) := (by repeat' (first | (with_reducible exact Below.refl _ _) | (with_reducible assumption) | (with_reducible refine below_more ?_ ?_ _) | (with_reducible refine below_drewN ?_ _) | (with_reducible refine Below.drew ?_) | (with_reducible refine Below.alloc ?_ ?_ _) | (with_reducible refine Below.setCell ?_ ?_ _) | go_size | (simp [more_size]; done) | (simp [more_size]; omega)))
  generalize ((more w g).alloc (.cells #[.int .i64 2, .bool true, .bool false, .int .i64 a, .int .i64 b, .int .i64 0, .int .i64 0, .int .i64 n] 33)) = W at *
  replace HBW := Lib.hid HBW
  go_wp2_with fail
  refine wp_region_more (by kernel_rfl) (by kernel_rfl) ?_
  repeat (first | go_big_quiet_skip | (go_big_quiet_want; go_big_quiet_op; first | go_big_quiet_on | (apply Exists.intro; refine ⟨fun _ => ?_, ?_⟩; (focus (first | (go_at_call 11; exact mo_in (Ha.out _)) | (go_at_call 11; exact mo_in (Hb.out _)) | (go_at_call 12; exact mo_in (Hn.out _)))); go_big_quiet_on)))
  refine wpQuiet_nil ?_
  intro _ hw'
  obtain ⟨gq, rfl⟩ := hw'
  go_wp2
  go_ret2
  exact ⟨rfl, more_of_below (HBW.out.trans (by have hws := HBW.out.size; exact (by repeat' (first | (with_reducible exact Below.refl _ _) | (with_reducible assumption) | (with_reducible refine below_more ?_ ?_ _) | (with_reducible refine below_drewN ?_ _) | (with_reducible refine Below.drew ?_) | (with_reducible refine Below.alloc ?_ ?_ _) | (with_reducible refine Below.setCell ?_ ?_ _) | go_size | (simp [more_size]; done) | (simp [more_size]; omega)))))⟩
set_option maxRecDepth 100000 in
set_option maxHeartbeats 3200000 in
theorem rline2ft_any (z : Int)  (a b n : Int) (w : World)  (Ra : ByteArray) (ha : Ra.size ≤ 12) (Ha : Hid (∀ w, Calls Tryd.prog 11 #[.int .i64 a] w fun e w2 => e = .returned (.string Ra) ∧ ∃ g, w2 = more w g)) (Rb : ByteArray) (hb : Rb.size ≤ 12) (Hb : Hid (∀ w, Calls Tryd.prog 11 #[.int .i64 b] w fun e w2 => e = .returned (.string Rb) ∧ ∃ g, w2 = more w g)) (Rn : ByteArray) (hn : Rn.size ≤ 12) (Hn : Hid (∀ w, Calls Tryd.prog 12 #[.int .i64 n] w fun e w2 => e = .returned (.string Rn) ∧ ∃ g, w2 = more w g)) 
    (HD : Hid (∀ w, Calls Tryd.prog 9 #[.int .u32 z] w fun e w' => e = .returned (.tuple #[.agg #[.int .i64 2, .bool false, .bool true, .int .i64 a, .int .i64 b, .int .i64 0, .int .i64 0, .int .i64 n], .int .i64 0]) ∧ ∃ g, w' = more w g)) :
    Calls Tryd.prog 5 #[.int .u32 z] w fun e w' => e = .returned (.tuple #[.string ((⟨#[76, 68]⟩ ++ ⟨#[66]⟩) ++ ⟨#[32]⟩ ++ Ra ++ ⟨#[44, 32]⟩ ++ Rb ++ ⟨#[44, 32]⟩ ++ Rn), .int .i64 0]) ∧ ∃ g, w' = more w g := by
  go_enter Tryd.func5, Tryd.ntmps5
  go_wp2_with (go_at_call 9; (with_reducible refine (HD.out _).mono ?_); rintro e w2 ⟨rfl, g, rfl⟩)
  obtain ⟨bx, hbx⟩ : ∃ bx, bx = w.heap.size + g.o.size := ⟨_, rfl⟩
  have hc : ∀ (j : Nat) (xv : Value), (#[Value.int .i64 2, .bool false, .bool true, .int .i64 a, .int .i64 b, .int .i64 0, .int .i64 0, .int .i64 n] : Array Value)[j]? = some xv → ((more w g).alloc (.cells #[.int .i64 2, .bool false, .bool true, .int .i64 a, .int .i64 b, .int .i64 0, .int .i64 0, .int .i64 n] 33)).cell? ⟨bx, j, none⟩ = some xv := fun j xv h => by
    rw [hbx]
    have := (MapKept.heap_alloc (more w g) (.cells #[.int .i64 2, .bool false, .bool true, .int .i64 a, .int .i64 b, .int .i64 0, .int .i64 0, .int .i64 n] 33 (0, 0))).1
    rw [more_size] at this
    rw [cell_of_row _ _ _ _ _ _ this]; exact h
  have y0 := hc 0 _ rfl
  have y1 := hc 1 _ rfl
  have y2 := hc 2 _ rfl
  have y3 := hc 3 _ rfl
  have y4 := hc 4 _ rfl
  have y5 := hc 5 _ rfl
  have y6 := hc 6 _ rfl
  have y7 := hc 7 _ rfl
  rw [← hbx]
  have ybx : bx < ((more w g).alloc (.cells #[.int .i64 2, .bool false, .bool true, .int .i64 a, .int .i64 b, .int .i64 0, .int .i64 0, .int .i64 n] 33)).heap.size := by rw [As.sz3, more_size]; omega
  clear hc hbx
  have HBW : Below w.heap.size w ((more w g).alloc (.cells #[.int .i64 2, .bool false, .bool true, .int .i64 a, .int .i64 b, .int .i64 0, .int .i64 0, .int .i64 n] 33)) := (by repeat' (first | (with_reducible exact Below.refl _ _) | (with_reducible assumption) | (with_reducible refine below_more ?_ ?_ _) | (with_reducible refine below_drewN ?_ _) | (with_reducible refine Below.drew ?_) | (with_reducible refine Below.alloc ?_ ?_ _) | (with_reducible refine Below.setCell ?_ ?_ _) | go_size | (simp [more_size]; done) | (simp [more_size]; omega)))
  generalize ((more w g).alloc (.cells #[.int .i64 2, .bool false, .bool true, .int .i64 a, .int .i64 b, .int .i64 0, .int .i64 0, .int .i64 n] 33)) = W at *
  replace HBW := Lib.hid HBW
  go_wp2_with fail
  refine wp_region_more (by kernel_rfl) (by kernel_rfl) ?_
  repeat (first | go_big_quiet_skip | (go_big_quiet_want; go_big_quiet_op; first | go_big_quiet_on | (apply Exists.intro; refine ⟨fun _ => ?_, ?_⟩; (focus (first | (go_at_call 11; exact mo_in (Ha.out _)) | (go_at_call 11; exact mo_in (Hb.out _)) | (go_at_call 12; exact mo_in (Hn.out _)))); go_big_quiet_on)))
  refine wpQuiet_nil ?_
  intro _ hw'
  obtain ⟨gq, rfl⟩ := hw'
  go_wp2
  go_ret2
  exact ⟨rfl, more_of_below (HBW.out.trans (by have hws := HBW.out.size; exact (by repeat' (first | (with_reducible exact Below.refl _ _) | (with_reducible assumption) | (with_reducible refine below_more ?_ ?_ _) | (with_reducible refine below_drewN ?_ _) | (with_reducible refine Below.drew ?_) | (with_reducible refine Below.alloc ?_ ?_ _) | (with_reducible refine Below.setCell ?_ ?_ _) | go_size | (simp [more_size]; done) | (simp [more_size]; omega)))))⟩
set_option maxRecDepth 100000 in
set_option maxHeartbeats 3200000 in
theorem rline2tt_any (z : Int)  (a b n : Int) (w : World)  (Ra : ByteArray) (ha : Ra.size ≤ 12) (Ha : Hid (∀ w, Calls Tryd.prog 11 #[.int .i64 a] w fun e w2 => e = .returned (.string Ra) ∧ ∃ g, w2 = more w g)) (Rb : ByteArray) (hb : Rb.size ≤ 12) (Hb : Hid (∀ w, Calls Tryd.prog 11 #[.int .i64 b] w fun e w2 => e = .returned (.string Rb) ∧ ∃ g, w2 = more w g)) (Rn : ByteArray) (hn : Rn.size ≤ 12) (Hn : Hid (∀ w, Calls Tryd.prog 12 #[.int .i64 n] w fun e w2 => e = .returned (.string Rn) ∧ ∃ g, w2 = more w g)) 
    (HD : Hid (∀ w, Calls Tryd.prog 9 #[.int .u32 z] w fun e w' => e = .returned (.tuple #[.agg #[.int .i64 2, .bool true, .bool true, .int .i64 a, .int .i64 b, .int .i64 0, .int .i64 0, .int .i64 n], .int .i64 0]) ∧ ∃ g, w' = more w g)) :
    Calls Tryd.prog 5 #[.int .u32 z] w fun e w' => e = .returned (.tuple #[.string ((⟨#[83, 84]⟩ ++ ⟨#[66]⟩) ++ ⟨#[32]⟩ ++ Ra ++ ⟨#[44, 32]⟩ ++ Rb ++ ⟨#[44, 32]⟩ ++ Rn), .int .i64 0]) ∧ ∃ g, w' = more w g := by
  go_enter Tryd.func5, Tryd.ntmps5
  go_wp2_with (go_at_call 9; (with_reducible refine (HD.out _).mono ?_); rintro e w2 ⟨rfl, g, rfl⟩)
  obtain ⟨bx, hbx⟩ : ∃ bx, bx = w.heap.size + g.o.size := ⟨_, rfl⟩
  have hc : ∀ (j : Nat) (xv : Value), (#[Value.int .i64 2, .bool true, .bool true, .int .i64 a, .int .i64 b, .int .i64 0, .int .i64 0, .int .i64 n] : Array Value)[j]? = some xv → ((more w g).alloc (.cells #[.int .i64 2, .bool true, .bool true, .int .i64 a, .int .i64 b, .int .i64 0, .int .i64 0, .int .i64 n] 33)).cell? ⟨bx, j, none⟩ = some xv := fun j xv h => by
    rw [hbx]
    have := (MapKept.heap_alloc (more w g) (.cells #[.int .i64 2, .bool true, .bool true, .int .i64 a, .int .i64 b, .int .i64 0, .int .i64 0, .int .i64 n] 33 (0, 0))).1
    rw [more_size] at this
    rw [cell_of_row _ _ _ _ _ _ this]; exact h
  have y0 := hc 0 _ rfl
  have y1 := hc 1 _ rfl
  have y2 := hc 2 _ rfl
  have y3 := hc 3 _ rfl
  have y4 := hc 4 _ rfl
  have y5 := hc 5 _ rfl
  have y6 := hc 6 _ rfl
  have y7 := hc 7 _ rfl
  rw [← hbx]
  have ybx : bx < ((more w g).alloc (.cells #[.int .i64 2, .bool true, .bool true, .int .i64 a, .int .i64 b, .int .i64 0, .int .i64 0, .int .i64 n] 33)).heap.size := by rw [As.sz3, more_size]; omega
  clear hc hbx
  have HBW : Below w.heap.size w ((more w g).alloc (.cells #[.int .i64 2, .bool true, .bool true, .int .i64 a, .int .i64 b, .int .i64 0, .int .i64 0, .int .i64 n] 33)) := (by repeat' (first | (with_reducible exact Below.refl _ _) | (with_reducible assumption) | (with_reducible refine below_more ?_ ?_ _) | (with_reducible refine below_drewN ?_ _) | (with_reducible refine Below.drew ?_) | (with_reducible refine Below.alloc ?_ ?_ _) | (with_reducible refine Below.setCell ?_ ?_ _) | go_size | (simp [more_size]; done) | (simp [more_size]; omega)))
  generalize ((more w g).alloc (.cells #[.int .i64 2, .bool true, .bool true, .int .i64 a, .int .i64 b, .int .i64 0, .int .i64 0, .int .i64 n] 33)) = W at *
  replace HBW := Lib.hid HBW
  go_wp2_with fail
  refine wp_region_more (by kernel_rfl) (by kernel_rfl) ?_
  repeat (first | go_big_quiet_skip | (go_big_quiet_want; go_big_quiet_op; first | go_big_quiet_on | (apply Exists.intro; refine ⟨fun _ => ?_, ?_⟩; (focus (first | (go_at_call 11; exact mo_in (Ha.out _)) | (go_at_call 11; exact mo_in (Hb.out _)) | (go_at_call 12; exact mo_in (Hn.out _)))); go_big_quiet_on)))
  refine wpQuiet_nil ?_
  intro _ hw'
  obtain ⟨gq, rfl⟩ := hw'
  go_wp2
  go_ret2
  exact ⟨rfl, more_of_below (HBW.out.trans (by have hws := HBW.out.size; exact (by repeat' (first | (with_reducible exact Below.refl _ _) | (with_reducible assumption) | (with_reducible refine below_more ?_ ?_ _) | (with_reducible refine below_drewN ?_ _) | (with_reducible refine Below.drew ?_) | (with_reducible refine Below.alloc ?_ ?_ _) | (with_reducible refine Below.setCell ?_ ?_ _) | go_size | (simp [more_size]; done) | (simp [more_size]; omega)))))⟩
end Go.Proofs.YtcckbmmjklahfaaDoor

namespace Go.Proofs.YtcckbmmjklahfaaDoor
set_option linter.all false
open Go.RowKit
set_option maxRecDepth 100000 in
set_option maxHeartbeats 3200000 in
theorem rline3ff_any (z : Int)  (c : Int) (i : Nat) (w : World) (NM : ByteArray) (hNM : NM.size ≤ 10) (hi : i < 16) (hT : (As.scs As.conds)[i]? = some (.string NM)) (Rc : ByteArray) (hc : Rc.size ≤ 12) (Hc : Hid (∀ w, Calls Tryd.prog 11 #[.int .i64 c] w fun e w2 => e = .returned (.string Rc) ∧ ∃ g, w2 = more w g)) 
    (HD : Hid (∀ w, Calls Tryd.prog 9 #[.int .u32 z] w fun e w' => e = .returned (.tuple #[.agg #[.int .i64 3, .bool false, .bool false, .int .i64 (i : Int), .int .i64 0, .int .i64 c, .int .i64 0, .int .i64 0], .int .i64 0]) ∧ ∃ g, w' = more w g)) :
    Calls Tryd.prog 5 #[.int .u32 z] w fun e w' => e = .returned (.tuple #[.string (⟨#[66]⟩ ++ (⟨#[46]⟩ ++ NM ++ ⟨#[32]⟩) ++ Rc), .int .i64 0]) ∧ ∃ g, w' = more w g := by
  go_enter Tryd.func5, Tryd.ntmps5
  go_wp2_with (go_at_call 9; (with_reducible refine (HD.out _).mono ?_); rintro e w2 ⟨rfl, g, rfl⟩)
  obtain ⟨bx, hbx⟩ : ∃ bx, bx = w.heap.size + g.o.size := ⟨_, rfl⟩
  have hc : ∀ (j : Nat) (xv : Value), (#[Value.int .i64 3, .bool false, .bool false, .int .i64 (i : Int), .int .i64 0, .int .i64 c, .int .i64 0, .int .i64 0] : Array Value)[j]? = some xv → ((more w g).alloc (.cells #[.int .i64 3, .bool false, .bool false, .int .i64 (i : Int), .int .i64 0, .int .i64 c, .int .i64 0, .int .i64 0] 33)).cell? ⟨bx, j, none⟩ = some xv := fun j xv h => by
    rw [hbx]
    have := (MapKept.heap_alloc (more w g) (.cells #[.int .i64 3, .bool false, .bool false, .int .i64 (i : Int), .int .i64 0, .int .i64 c, .int .i64 0, .int .i64 0] 33 (0, 0))).1
    rw [more_size] at this
    rw [cell_of_row _ _ _ _ _ _ this]; exact h
  have y0 := hc 0 _ rfl
  have y1 := hc 1 _ rfl
  have y2 := hc 2 _ rfl
  have y3 := hc 3 _ rfl
  have y4 := hc 4 _ rfl
  have y5 := hc 5 _ rfl
  have y6 := hc 6 _ rfl
  have y7 := hc 7 _ rfl
  rw [← hbx]
  have ybx : bx < ((more w g).alloc (.cells #[.int .i64 3, .bool false, .bool false, .int .i64 (i : Int), .int .i64 0, .int .i64 c, .int .i64 0, .int .i64 0] 33)).heap.size := by rw [As.sz3, more_size]; omega
  clear hc hbx
  have HBW : Below w.heap.size w ((more w g).alloc (.cells #[.int .i64 3, .bool false, .bool false, .int .i64 (i : Int), .int .i64 0, .int .i64 c, .int .i64 0, .int .i64 0] 33)) := (by repeat' (first | (with_reducible exact Below.refl _ _) | (with_reducible assumption) | (with_reducible refine below_more ?_ ?_ _) | (with_reducible refine below_drewN ?_ _) | (with_reducible refine Below.drew ?_) | (with_reducible refine Below.alloc ?_ ?_ _) | (with_reducible refine Below.setCell ?_ ?_ _) | go_size | (simp [more_size]; done) | (simp [more_size]; omega)))
  generalize ((more w g).alloc (.cells #[.int .i64 3, .bool false, .bool false, .int .i64 (i : Int), .int .i64 0, .int .i64 c, .int .i64 0, .int .i64 0] 33)) = W at *
  replace HBW := Lib.hid HBW
  have hi0 : (0 : Int) ≤ (i : Int) := by omega
  have hi1 : (i : Int) < 16 := by omega
  go_wp2_with fail
  have HW0 := Lib.hid (show (fun X => X.cell? ⟨bx, 3, none⟩ = some (.int .i64 (i : Int))) W.drew ∧ True from ⟨by simp [go_sem, *], trivial⟩)
  refine wp_region_G (SD 1 (fun X => X.cell? ⟨bx, 3, none⟩ = some (.int .i64 (i : Int))) (fun X => X.cell? ⟨W.heap.size, i, none⟩ = some (.string NM))) 10 (by kernel_rfl) (by kernel_rfl) ⟨HW0.out.1, fun h => absurd h (by decide)⟩ (fun hC hS => ?_)
  clear HW0
  refine wpAnyD_take (n := 10) (i := 0) (v := ?v0) rfl (by kernel_rfl) (by kernel_rfl) (by kernel_rfl) (by kernel_rfl) (SD_put (by decide)) (fun _ _ _ h => h) (closed_all (by kernel_rfl)) (Or.inl ⟨by rfl, ?y0⟩) hS ?r0
  case y0 =>
    intro X hX
    clear hX
    go_simp
    try with_reducible rfl
    try (rw [if_neg (by first | omega | (simp [ByteArray.size_append, ByteArray.size]; omega) | (simp only [ByteArray.size_append]; omega))])
  replace hS := (SD_put (n := 10) (i := 0) (by decide) _ _ (by first | kernel_rfl | simp)).2 hS
  try simp only [Act.put, List.setIfInBounds_toArray, List.set_cons_zero, List.set_cons_succ]
  try simp only [List.setIfInBounds_toArray, List.set_cons_zero, List.set_cons_succ] at hS
  refine wpAnyD_take (n := 10) (i := 2) (v := ?v2) rfl (by kernel_rfl) (by kernel_rfl) (by kernel_rfl) (by kernel_rfl) (SD_put (by decide)) (fun _ _ _ h => h) (closed_all (by kernel_rfl)) (Or.inl ⟨by rfl, ?y2⟩) hS ?r2
  case y2 =>
    intro X hX
    clear hX
    go_simp
    try with_reducible rfl
    try (rw [if_neg (by first | omega | (simp [ByteArray.size_append, ByteArray.size]; omega) | (simp only [ByteArray.size_append]; omega))])
  replace hS := (SD_put (n := 10) (i := 2) (by decide) _ _ (by first | kernel_rfl | simp)).2 hS
  try simp only [Act.put, List.setIfInBounds_toArray, List.set_cons_zero, List.set_cons_succ]
  try simp only [List.setIfInBounds_toArray, List.set_cons_zero, List.set_cons_succ] at hS
  refine wpAnyD_take (n := 10) (i := 3) (v := ?v3) rfl (by kernel_rfl) (by kernel_rfl) (by kernel_rfl) (by kernel_rfl) (SD_put (by decide)) (fun _ _ _ h => h) (closed_all (by kernel_rfl)) (Or.inl ⟨by rfl, ?y3⟩) hS ?r3
  case y3 =>
    intro X hX
    have xb := starD_base hX
    clear hX
    go_simp
    try with_reducible rfl
    try (rw [if_neg (by first | omega | (simp [ByteArray.size_append, ByteArray.size]; omega) | (simp only [ByteArray.size_append]; omega))])
  replace hS := (SD_put (n := 10) (i := 3) (by decide) _ _ (by first | kernel_rfl | simp)).2 hS
  try simp only [Act.put, List.setIfInBounds_toArray, List.set_cons_zero, List.set_cons_succ]
  try simp only [List.setIfInBounds_toArray, List.set_cons_zero, List.set_cons_succ] at hS
  refine wpAnyG_ready (rs := [1]) (by kernel_rfl) (by simp) ?_
  refine AllReadyG.cons rfl (fun K hK => ?_) AllReadyG.nil
  go_simp
  refine (rconds_any _).mono ?_; rintro e w2 ⟨rfl, rfl⟩
  go_simp
  refine hK.out _ _ ⟨by simp [go_sem, *], fun _ => by simp [go_sem, *]⟩ (fun hS' => ?_)
  clear hK K hS; have hS := hS'; clear hS'
  try simp only [Act.put, List.setIfInBounds_toArray, List.set_cons_zero, List.set_cons_succ]
  try simp only [List.setIfInBounds_toArray, List.set_cons_zero, List.set_cons_succ] at hS
  refine wpAnyD_take (n := 10) (i := 4) (v := ?v4) rfl (by kernel_rfl) (by kernel_rfl) (by kernel_rfl) (by kernel_rfl) (SD_put (by decide)) (fun _ _ _ h => h) (closed_all (by kernel_rfl)) (Or.inl ⟨by rfl, ?y4⟩) hS ?r4
  case y4 =>
    intro X hX
    clear hX
    go_simp
    try with_reducible rfl
    try (rw [if_neg (by first | omega | (simp [ByteArray.size_append, ByteArray.size]; omega) | (simp only [ByteArray.size_append]; omega))])
  replace hS := (SD_put (n := 10) (i := 4) (by decide) _ _ (by first | kernel_rfl | simp)).2 hS
  try simp only [Act.put, List.setIfInBounds_toArray, List.set_cons_zero, List.set_cons_succ]
  try simp only [List.setIfInBounds_toArray, List.set_cons_zero, List.set_cons_succ] at hS
  refine wpAnyD_take (n := 10) (i := 5) (v := ?v5) rfl (by kernel_rfl) (by kernel_rfl) (by kernel_rfl) (by kernel_rfl) (SD_put (by decide)) (fun _ _ _ h => h) (closed_all (by kernel_rfl)) (Or.inl ⟨by rfl, ?y5⟩) hS ?r5
  case y5 =>
    intro X hX
    have xc := starD_late hX (m := 4) (by kernel_rfl) (.inr (by kernel_rfl))
    clear hX
    go_simp
    try with_reducible rfl
    try (rw [if_neg (by first | omega | (simp [ByteArray.size_append, ByteArray.size]; omega) | (simp only [ByteArray.size_append]; omega))])
  replace hS := (SD_put (n := 10) (i := 5) (by decide) _ _ (by first | kernel_rfl | simp)).2 hS
  try simp only [Act.put, List.setIfInBounds_toArray, List.set_cons_zero, List.set_cons_succ]
  try simp only [List.setIfInBounds_toArray, List.set_cons_zero, List.set_cons_succ] at hS
  refine wpAnyD_take (n := 10) (i := 6) (v := ?v6) rfl (by kernel_rfl) (by kernel_rfl) (by kernel_rfl) (by kernel_rfl) (SD_put (by decide)) (fun _ _ _ h => h) (closed_all (by kernel_rfl)) (Or.inl ⟨by rfl, ?y6⟩) hS ?r6
  case y6 =>
    intro X hX
    clear hX
    go_simp
    try with_reducible rfl
    try (rw [if_neg (by first | omega | (simp [ByteArray.size_append, ByteArray.size]; omega) | (simp only [ByteArray.size_append]; omega))])
  replace hS := (SD_put (n := 10) (i := 6) (by decide) _ _ (by first | kernel_rfl | simp)).2 hS
  try simp only [Act.put, List.setIfInBounds_toArray, List.set_cons_zero, List.set_cons_succ]
  try simp only [List.setIfInBounds_toArray, List.set_cons_zero, List.set_cons_succ] at hS
  refine wpAnyD_take (n := 10) (i := 7) (v := ?v7) rfl (by kernel_rfl) (by kernel_rfl) (by kernel_rfl) (by kernel_rfl) (SD_put (by decide)) (fun _ _ _ h => h) (closed_all (by kernel_rfl)) (Or.inl ⟨by rfl, ?y7⟩) hS ?r7
  case y7 =>
    intro X hX
    clear hX
    go_simp
    try with_reducible rfl
    try (rw [if_neg (by first | omega | (simp [ByteArray.size_append, ByteArray.size]; omega) | (simp only [ByteArray.size_append]; omega))])
  replace hS := (SD_put (n := 10) (i := 7) (by decide) _ _ (by first | kernel_rfl | simp)).2 hS
  try simp only [Act.put, List.setIfInBounds_toArray, List.set_cons_zero, List.set_cons_succ]
  try simp only [List.setIfInBounds_toArray, List.set_cons_zero, List.set_cons_succ] at hS
  refine wpAnyD_take (n := 10) (i := 8) (v := ?v8) rfl (by kernel_rfl) (by kernel_rfl) (by kernel_rfl) (by kernel_rfl) (SD_put (by decide)) (fun _ _ _ h => h) (closed_all (by kernel_rfl)) (Or.inl ⟨by rfl, ?y8⟩) hS ?r8
  case y8 =>
    intro X hX
    clear hX
    go_simp
    try with_reducible rfl
    try (rw [if_neg (by first | omega | (simp [ByteArray.size_append, ByteArray.size]; omega) | (simp only [ByteArray.size_append]; omega))])
  replace hS := (SD_put (n := 10) (i := 8) (by decide) _ _ (by first | kernel_rfl | simp)).2 hS
  try simp only [Act.put, List.setIfInBounds_toArray, List.set_cons_zero, List.set_cons_succ]
  try simp only [List.setIfInBounds_toArray, List.set_cons_zero, List.set_cons_succ] at hS
  refine wpAnyD_take (n := 10) (i := 9) (v := ?v9) rfl (by kernel_rfl) (by kernel_rfl) (by kernel_rfl) (by kernel_rfl) (SD_put (by decide)) (fun _ _ _ h => h) (closed_all (by kernel_rfl)) (Or.inl ⟨by rfl, ?y9⟩) hS ?r9
  case y9 =>
    intro X hX
    clear hX
    go_simp
    try with_reducible rfl
    try (rw [if_neg (by first | omega | (simp [ByteArray.size_append, ByteArray.size]; omega) | (simp only [ByteArray.size_append]; omega))])
  replace hS := (SD_put (n := 10) (i := 9) (by decide) _ _ (by first | kernel_rfl | simp)).2 hS
  try simp only [Act.put, List.setIfInBounds_toArray, List.set_cons_zero, List.set_cons_succ]
  try simp only [List.setIfInBounds_toArray, List.set_cons_zero, List.set_cons_succ] at hS
  refine wpAnyG_done (by kernel_rfl) ?_ _
  clear hS hC
  go_wp2_with (go_at_call 11; (with_reducible refine (Hc.out _).mono ?_); rintro e w2 ⟨rfl, g2, rfl⟩)
  go_ret2
  exact ⟨rfl, more_of_below (HBW.out.trans (by have hws := HBW.out.size; exact (by repeat' (first | (with_reducible exact Below.refl _ _) | (with_reducible assumption) | (with_reducible refine below_more ?_ ?_ _) | (with_reducible refine below_drewN ?_ _) | (with_reducible refine Below.drew ?_) | (with_reducible refine Below.alloc ?_ ?_ _) | (with_reducible refine Below.setCell ?_ ?_ _) | go_size | (simp [more_size]; done) | (simp [more_size]; omega)))))⟩
set_option maxRecDepth 100000 in
set_option maxHeartbeats 3200000 in
theorem rline3tf_any (z : Int)  (n : Int) (i : Nat) (w : World) (NM : ByteArray) (hNM : NM.size ≤ 10) (hi : i < 16) (hT : (As.scs As.conds)[i]? = some (.string NM)) (Rn : ByteArray) (hn : Rn.size ≤ 12) (Hn : Hid (∀ w, Calls Tryd.prog 12 #[.int .i64 n] w fun e w2 => e = .returned (.string Rn) ∧ ∃ g, w2 = more w g)) 
    (HD : Hid (∀ w, Calls Tryd.prog 9 #[.int .u32 z] w fun e w' => e = .returned (.tuple #[.agg #[.int .i64 3, .bool true, .bool false, .int .i64 (i : Int), .int .i64 0, .int .i64 0, .int .i64 0, .int .i64 n], .int .i64 0]) ∧ ∃ g, w' = more w g)) :
    Calls Tryd.prog 5 #[.int .u32 z] w fun e w' => e = .returned (.tuple #[.string (⟨#[66]⟩ ++ (⟨#[46]⟩ ++ NM ++ ⟨#[32]⟩) ++ Rn), .int .i64 0]) ∧ ∃ g, w' = more w g := by
  go_enter Tryd.func5, Tryd.ntmps5
  go_wp2_with (go_at_call 9; (with_reducible refine (HD.out _).mono ?_); rintro e w2 ⟨rfl, g, rfl⟩)
  obtain ⟨bx, hbx⟩ : ∃ bx, bx = w.heap.size + g.o.size := ⟨_, rfl⟩
  have hc : ∀ (j : Nat) (xv : Value), (#[Value.int .i64 3, .bool true, .bool false, .int .i64 (i : Int), .int .i64 0, .int .i64 0, .int .i64 0, .int .i64 n] : Array Value)[j]? = some xv → ((more w g).alloc (.cells #[.int .i64 3, .bool true, .bool false, .int .i64 (i : Int), .int .i64 0, .int .i64 0, .int .i64 0, .int .i64 n] 33)).cell? ⟨bx, j, none⟩ = some xv := fun j xv h => by
    rw [hbx]
    have := (MapKept.heap_alloc (more w g) (.cells #[.int .i64 3, .bool true, .bool false, .int .i64 (i : Int), .int .i64 0, .int .i64 0, .int .i64 0, .int .i64 n] 33 (0, 0))).1
    rw [more_size] at this
    rw [cell_of_row _ _ _ _ _ _ this]; exact h
  have y0 := hc 0 _ rfl
  have y1 := hc 1 _ rfl
  have y2 := hc 2 _ rfl
  have y3 := hc 3 _ rfl
  have y4 := hc 4 _ rfl
  have y5 := hc 5 _ rfl
  have y6 := hc 6 _ rfl
  have y7 := hc 7 _ rfl
  rw [← hbx]
  have ybx : bx < ((more w g).alloc (.cells #[.int .i64 3, .bool true, .bool false, .int .i64 (i : Int), .int .i64 0, .int .i64 0, .int .i64 0, .int .i64 n] 33)).heap.size := by rw [As.sz3, more_size]; omega
  clear hc hbx
  have HBW : Below w.heap.size w ((more w g).alloc (.cells #[.int .i64 3, .bool true, .bool false, .int .i64 (i : Int), .int .i64 0, .int .i64 0, .int .i64 0, .int .i64 n] 33)) := (by repeat' (first | (with_reducible exact Below.refl _ _) | (with_reducible assumption) | (with_reducible refine below_more ?_ ?_ _) | (with_reducible refine below_drewN ?_ _) | (with_reducible refine Below.drew ?_) | (with_reducible refine Below.alloc ?_ ?_ _) | (with_reducible refine Below.setCell ?_ ?_ _) | go_size | (simp [more_size]; done) | (simp [more_size]; omega)))
  generalize ((more w g).alloc (.cells #[.int .i64 3, .bool true, .bool false, .int .i64 (i : Int), .int .i64 0, .int .i64 0, .int .i64 0, .int .i64 n] 33)) = W at *
  replace HBW := Lib.hid HBW
  have hi0 : (0 : Int) ≤ (i : Int) := by omega
  have hi1 : (i : Int) < 16 := by omega
  go_wp2_with fail
  have HW0 := Lib.hid (show (fun X => X.cell? ⟨bx, 3, none⟩ = some (.int .i64 (i : Int))) W.drew ∧ True from ⟨by simp [go_sem, *], trivial⟩)
  refine wp_region_G (SD 1 (fun X => X.cell? ⟨bx, 3, none⟩ = some (.int .i64 (i : Int))) (fun X => X.cell? ⟨W.heap.size, i, none⟩ = some (.string NM))) 10 (by kernel_rfl) (by kernel_rfl) ⟨HW0.out.1, fun h => absurd h (by decide)⟩ (fun hC hS => ?_)
  clear HW0
  refine wpAnyD_take (n := 10) (i := 0) (v := ?v0) rfl (by kernel_rfl) (by kernel_rfl) (by kernel_rfl) (by kernel_rfl) (SD_put (by decide)) (fun _ _ _ h => h) (closed_all (by kernel_rfl)) (Or.inl ⟨by rfl, ?y0⟩) hS ?r0
  case y0 =>
    intro X hX
    clear hX
    go_simp
    try with_reducible rfl
    try (rw [if_neg (by first | omega | (simp [ByteArray.size_append, ByteArray.size]; omega) | (simp only [ByteArray.size_append]; omega))])
  replace hS := (SD_put (n := 10) (i := 0) (by decide) _ _ (by first | kernel_rfl | simp)).2 hS
  try simp only [Act.put, List.setIfInBounds_toArray, List.set_cons_zero, List.set_cons_succ]
  try simp only [List.setIfInBounds_toArray, List.set_cons_zero, List.set_cons_succ] at hS
  refine wpAnyD_take (n := 10) (i := 2) (v := ?v2) rfl (by kernel_rfl) (by kernel_rfl) (by kernel_rfl) (by kernel_rfl) (SD_put (by decide)) (fun _ _ _ h => h) (closed_all (by kernel_rfl)) (Or.inl ⟨by rfl, ?y2⟩) hS ?r2
  case y2 =>
    intro X hX
    clear hX
    go_simp
    try with_reducible rfl
    try (rw [if_neg (by first | omega | (simp [ByteArray.size_append, ByteArray.size]; omega) | (simp only [ByteArray.size_append]; omega))])
  replace hS := (SD_put (n := 10) (i := 2) (by decide) _ _ (by first | kernel_rfl | simp)).2 hS
  try simp only [Act.put, List.setIfInBounds_toArray, List.set_cons_zero, List.set_cons_succ]
  try simp only [List.setIfInBounds_toArray, List.set_cons_zero, List.set_cons_succ] at hS
  refine wpAnyD_take (n := 10) (i := 3) (v := ?v3) rfl (by kernel_rfl) (by kernel_rfl) (by kernel_rfl) (by kernel_rfl) (SD_put (by decide)) (fun _ _ _ h => h) (closed_all (by kernel_rfl)) (Or.inl ⟨by rfl, ?y3⟩) hS ?r3
  case y3 =>
    intro X hX
    have xb := starD_base hX
    clear hX
    go_simp
    try with_reducible rfl
    try (rw [if_neg (by first | omega | (simp [ByteArray.size_append, ByteArray.size]; omega) | (simp only [ByteArray.size_append]; omega))])
  replace hS := (SD_put (n := 10) (i := 3) (by decide) _ _ (by first | kernel_rfl | simp)).2 hS
  try simp only [Act.put, List.setIfInBounds_toArray, List.set_cons_zero, List.set_cons_succ]
  try simp only [List.setIfInBounds_toArray, List.set_cons_zero, List.set_cons_succ] at hS
  refine wpAnyG_ready (rs := [1]) (by kernel_rfl) (by simp) ?_
  refine AllReadyG.cons rfl (fun K hK => ?_) AllReadyG.nil
  go_simp
  refine (rconds_any _).mono ?_; rintro e w2 ⟨rfl, rfl⟩
  go_simp
  refine hK.out _ _ ⟨by simp [go_sem, *], fun _ => by simp [go_sem, *]⟩ (fun hS' => ?_)
  clear hK K hS; have hS := hS'; clear hS'
  try simp only [Act.put, List.setIfInBounds_toArray, List.set_cons_zero, List.set_cons_succ]
  try simp only [List.setIfInBounds_toArray, List.set_cons_zero, List.set_cons_succ] at hS
  refine wpAnyD_take (n := 10) (i := 4) (v := ?v4) rfl (by kernel_rfl) (by kernel_rfl) (by kernel_rfl) (by kernel_rfl) (SD_put (by decide)) (fun _ _ _ h => h) (closed_all (by kernel_rfl)) (Or.inl ⟨by rfl, ?y4⟩) hS ?r4
  case y4 =>
    intro X hX
    clear hX
    go_simp
    try with_reducible rfl
    try (rw [if_neg (by first | omega | (simp [ByteArray.size_append, ByteArray.size]; omega) | (simp only [ByteArray.size_append]; omega))])
  replace hS := (SD_put (n := 10) (i := 4) (by decide) _ _ (by first | kernel_rfl | simp)).2 hS
  try simp only [Act.put, List.setIfInBounds_toArray, List.set_cons_zero, List.set_cons_succ]
  try simp only [List.setIfInBounds_toArray, List.set_cons_zero, List.set_cons_succ] at hS
  refine wpAnyD_take (n := 10) (i := 5) (v := ?v5) rfl (by kernel_rfl) (by kernel_rfl) (by kernel_rfl) (by kernel_rfl) (SD_put (by decide)) (fun _ _ _ h => h) (closed_all (by kernel_rfl)) (Or.inl ⟨by rfl, ?y5⟩) hS ?r5
  case y5 =>
    intro X hX
    have xc := starD_late hX (m := 4) (by kernel_rfl) (.inr (by kernel_rfl))
    clear hX
    go_simp
    try with_reducible rfl
    try (rw [if_neg (by first | omega | (simp [ByteArray.size_append, ByteArray.size]; omega) | (simp only [ByteArray.size_append]; omega))])
  replace hS := (SD_put (n := 10) (i := 5) (by decide) _ _ (by first | kernel_rfl | simp)).2 hS
  try simp only [Act.put, List.setIfInBounds_toArray, List.set_cons_zero, List.set_cons_succ]
  try simp only [List.setIfInBounds_toArray, List.set_cons_zero, List.set_cons_succ] at hS
  refine wpAnyD_take (n := 10) (i := 6) (v := ?v6) rfl (by kernel_rfl) (by kernel_rfl) (by kernel_rfl) (by kernel_rfl) (SD_put (by decide)) (fun _ _ _ h => h) (closed_all (by kernel_rfl)) (Or.inl ⟨by rfl, ?y6⟩) hS ?r6
  case y6 =>
    intro X hX
    clear hX
    go_simp
    try with_reducible rfl
    try (rw [if_neg (by first | omega | (simp [ByteArray.size_append, ByteArray.size]; omega) | (simp only [ByteArray.size_append]; omega))])
  replace hS := (SD_put (n := 10) (i := 6) (by decide) _ _ (by first | kernel_rfl | simp)).2 hS
  try simp only [Act.put, List.setIfInBounds_toArray, List.set_cons_zero, List.set_cons_succ]
  try simp only [List.setIfInBounds_toArray, List.set_cons_zero, List.set_cons_succ] at hS
  refine wpAnyD_take (n := 10) (i := 7) (v := ?v7) rfl (by kernel_rfl) (by kernel_rfl) (by kernel_rfl) (by kernel_rfl) (SD_put (by decide)) (fun _ _ _ h => h) (closed_all (by kernel_rfl)) (Or.inl ⟨by rfl, ?y7⟩) hS ?r7
  case y7 =>
    intro X hX
    clear hX
    go_simp
    try with_reducible rfl
    try (rw [if_neg (by first | omega | (simp [ByteArray.size_append, ByteArray.size]; omega) | (simp only [ByteArray.size_append]; omega))])
  replace hS := (SD_put (n := 10) (i := 7) (by decide) _ _ (by first | kernel_rfl | simp)).2 hS
  try simp only [Act.put, List.setIfInBounds_toArray, List.set_cons_zero, List.set_cons_succ]
  try simp only [List.setIfInBounds_toArray, List.set_cons_zero, List.set_cons_succ] at hS
  refine wpAnyD_take (n := 10) (i := 8) (v := ?v8) rfl (by kernel_rfl) (by kernel_rfl) (by kernel_rfl) (by kernel_rfl) (SD_put (by decide)) (fun _ _ _ h => h) (closed_all (by kernel_rfl)) (Or.inl ⟨by rfl, ?y8⟩) hS ?r8
  case y8 =>
    intro X hX
    clear hX
    go_simp
    try with_reducible rfl
    try (rw [if_neg (by first | omega | (simp [ByteArray.size_append, ByteArray.size]; omega) | (simp only [ByteArray.size_append]; omega))])
  replace hS := (SD_put (n := 10) (i := 8) (by decide) _ _ (by first | kernel_rfl | simp)).2 hS
  try simp only [Act.put, List.setIfInBounds_toArray, List.set_cons_zero, List.set_cons_succ]
  try simp only [List.setIfInBounds_toArray, List.set_cons_zero, List.set_cons_succ] at hS
  refine wpAnyD_take (n := 10) (i := 9) (v := ?v9) rfl (by kernel_rfl) (by kernel_rfl) (by kernel_rfl) (by kernel_rfl) (SD_put (by decide)) (fun _ _ _ h => h) (closed_all (by kernel_rfl)) (Or.inl ⟨by rfl, ?y9⟩) hS ?r9
  case y9 =>
    intro X hX
    clear hX
    go_simp
    try with_reducible rfl
    try (rw [if_neg (by first | omega | (simp [ByteArray.size_append, ByteArray.size]; omega) | (simp only [ByteArray.size_append]; omega))])
  replace hS := (SD_put (n := 10) (i := 9) (by decide) _ _ (by first | kernel_rfl | simp)).2 hS
  try simp only [Act.put, List.setIfInBounds_toArray, List.set_cons_zero, List.set_cons_succ]
  try simp only [List.setIfInBounds_toArray, List.set_cons_zero, List.set_cons_succ] at hS
  refine wpAnyG_done (by kernel_rfl) ?_ _
  clear hS hC
  go_wp2_with (go_at_call 12; (with_reducible refine (Hn.out _).mono ?_); rintro e w2 ⟨rfl, g2, rfl⟩)
  go_ret2
  exact ⟨rfl, more_of_below (HBW.out.trans (by have hws := HBW.out.size; exact (by repeat' (first | (with_reducible exact Below.refl _ _) | (with_reducible assumption) | (with_reducible refine below_more ?_ ?_ _) | (with_reducible refine below_drewN ?_ _) | (with_reducible refine Below.drew ?_) | (with_reducible refine Below.alloc ?_ ?_ _) | (with_reducible refine Below.setCell ?_ ?_ _) | go_size | (simp [more_size]; done) | (simp [more_size]; omega)))))⟩
set_option maxRecDepth 100000 in
set_option maxHeartbeats 3200000 in
theorem rline3ft_any (z : Int)  (c : Int) (i : Nat) (w : World) (NM : ByteArray) (hNM : NM.size ≤ 10) (hi : i < 16) (hT : (As.scs As.conds)[i]? = some (.string NM)) (Rc : ByteArray) (hc : Rc.size ≤ 12) (Hc : Hid (∀ w, Calls Tryd.prog 11 #[.int .i64 c] w fun e w2 => e = .returned (.string Rc) ∧ ∃ g, w2 = more w g)) 
    (HD : Hid (∀ w, Calls Tryd.prog 9 #[.int .u32 z] w fun e w' => e = .returned (.tuple #[.agg #[.int .i64 3, .bool false, .bool true, .int .i64 (i : Int), .int .i64 0, .int .i64 c, .int .i64 0, .int .i64 0], .int .i64 0]) ∧ ∃ g, w' = more w g)) :
    Calls Tryd.prog 5 #[.int .u32 z] w fun e w' => e = .returned (.tuple #[.string (⟨#[66, 76]⟩ ++ (⟨#[46]⟩ ++ NM ++ ⟨#[32]⟩) ++ Rc), .int .i64 0]) ∧ ∃ g, w' = more w g := by
  go_enter Tryd.func5, Tryd.ntmps5
  go_wp2_with (go_at_call 9; (with_reducible refine (HD.out _).mono ?_); rintro e w2 ⟨rfl, g, rfl⟩)
  obtain ⟨bx, hbx⟩ : ∃ bx, bx = w.heap.size + g.o.size := ⟨_, rfl⟩
  have hc : ∀ (j : Nat) (xv : Value), (#[Value.int .i64 3, .bool false, .bool true, .int .i64 (i : Int), .int .i64 0, .int .i64 c, .int .i64 0, .int .i64 0] : Array Value)[j]? = some xv → ((more w g).alloc (.cells #[.int .i64 3, .bool false, .bool true, .int .i64 (i : Int), .int .i64 0, .int .i64 c, .int .i64 0, .int .i64 0] 33)).cell? ⟨bx, j, none⟩ = some xv := fun j xv h => by
    rw [hbx]
    have := (MapKept.heap_alloc (more w g) (.cells #[.int .i64 3, .bool false, .bool true, .int .i64 (i : Int), .int .i64 0, .int .i64 c, .int .i64 0, .int .i64 0] 33 (0, 0))).1
    rw [more_size] at this
    rw [cell_of_row _ _ _ _ _ _ this]; exact h
  have y0 := hc 0 _ rfl
  have y1 := hc 1 _ rfl
  have y2 := hc 2 _ rfl
  have y3 := hc 3 _ rfl
  have y4 := hc 4 _ rfl
  have y5 := hc 5 _ rfl
  have y6 := hc 6 _ rfl
  have y7 := hc 7 _ rfl
  rw [← hbx]
  have ybx : bx < ((more w g).alloc (.cells #[.int .i64 3, .bool false, .bool true, .int .i64 (i : Int), .int .i64 0, .int .i64 c, .int .i64 0, .int .i64 0] 33)).heap.size := by rw [As.sz3, more_size]; omega
  clear hc hbx
  have HBW : Below w.heap.size w ((more w g).alloc (.cells #[.int .i64 3, .bool false, .bool true, .int .i64 (i : Int), .int .i64 0, .int .i64 c, .int .i64 0, .int .i64 0] 33)) := (by repeat' (first | (with_reducible exact Below.refl _ _) | (with_reducible assumption) | (with_reducible refine below_more ?_ ?_ _) | (with_reducible refine below_drewN ?_ _) | (with_reducible refine Below.drew ?_) | (with_reducible refine Below.alloc ?_ ?_ _) | (with_reducible refine Below.setCell ?_ ?_ _) | go_size | (simp [more_size]; done) | (simp [more_size]; omega)))
  generalize ((more w g).alloc (.cells #[.int .i64 3, .bool false, .bool true, .int .i64 (i : Int), .int .i64 0, .int .i64 c, .int .i64 0, .int .i64 0] 33)) = W at *
  replace HBW := Lib.hid HBW
  have hi0 : (0 : Int) ≤ (i : Int) := by omega
  have hi1 : (i : Int) < 16 := by omega
  go_wp2_with fail
  have HW0 := Lib.hid (show (fun X => X.cell? ⟨bx, 3, none⟩ = some (.int .i64 (i : Int))) W.drew ∧ True from ⟨by simp [go_sem, *], trivial⟩)
  refine wp_region_G (SD 1 (fun X => X.cell? ⟨bx, 3, none⟩ = some (.int .i64 (i : Int))) (fun X => X.cell? ⟨W.heap.size, i, none⟩ = some (.string NM))) 10 (by kernel_rfl) (by kernel_rfl) ⟨HW0.out.1, fun h => absurd h (by decide)⟩ (fun hC hS => ?_)
  clear HW0
  refine wpAnyD_take (n := 10) (i := 0) (v := ?v0) rfl (by kernel_rfl) (by kernel_rfl) (by kernel_rfl) (by kernel_rfl) (SD_put (by decide)) (fun _ _ _ h => h) (closed_all (by kernel_rfl)) (Or.inl ⟨by rfl, ?y0⟩) hS ?r0
  case y0 =>
    intro X hX
    clear hX
    go_simp
    try with_reducible rfl
    try (rw [if_neg (by first | omega | (simp [ByteArray.size_append, ByteArray.size]; omega) | (simp only [ByteArray.size_append]; omega))])
  replace hS := (SD_put (n := 10) (i := 0) (by decide) _ _ (by first | kernel_rfl | simp)).2 hS
  try simp only [Act.put, List.setIfInBounds_toArray, List.set_cons_zero, List.set_cons_succ]
  try simp only [List.setIfInBounds_toArray, List.set_cons_zero, List.set_cons_succ] at hS
  refine wpAnyD_take (n := 10) (i := 2) (v := ?v2) rfl (by kernel_rfl) (by kernel_rfl) (by kernel_rfl) (by kernel_rfl) (SD_put (by decide)) (fun _ _ _ h => h) (closed_all (by kernel_rfl)) (Or.inl ⟨by rfl, ?y2⟩) hS ?r2
  case y2 =>
    intro X hX
    clear hX
    go_simp
    try with_reducible rfl
    try (rw [if_neg (by first | omega | (simp [ByteArray.size_append, ByteArray.size]; omega) | (simp only [ByteArray.size_append]; omega))])
  replace hS := (SD_put (n := 10) (i := 2) (by decide) _ _ (by first | kernel_rfl | simp)).2 hS
  try simp only [Act.put, List.setIfInBounds_toArray, List.set_cons_zero, List.set_cons_succ]
  try simp only [List.setIfInBounds_toArray, List.set_cons_zero, List.set_cons_succ] at hS
  refine wpAnyD_take (n := 10) (i := 3) (v := ?v3) rfl (by kernel_rfl) (by kernel_rfl) (by kernel_rfl) (by kernel_rfl) (SD_put (by decide)) (fun _ _ _ h => h) (closed_all (by kernel_rfl)) (Or.inl ⟨by rfl, ?y3⟩) hS ?r3
  case y3 =>
    intro X hX
    have xb := starD_base hX
    clear hX
    go_simp
    try with_reducible rfl
    try (rw [if_neg (by first | omega | (simp [ByteArray.size_append, ByteArray.size]; omega) | (simp only [ByteArray.size_append]; omega))])
  replace hS := (SD_put (n := 10) (i := 3) (by decide) _ _ (by first | kernel_rfl | simp)).2 hS
  try simp only [Act.put, List.setIfInBounds_toArray, List.set_cons_zero, List.set_cons_succ]
  try simp only [List.setIfInBounds_toArray, List.set_cons_zero, List.set_cons_succ] at hS
  refine wpAnyG_ready (rs := [1]) (by kernel_rfl) (by simp) ?_
  refine AllReadyG.cons rfl (fun K hK => ?_) AllReadyG.nil
  go_simp
  refine (rconds_any _).mono ?_; rintro e w2 ⟨rfl, rfl⟩
  go_simp
  refine hK.out _ _ ⟨by simp [go_sem, *], fun _ => by simp [go_sem, *]⟩ (fun hS' => ?_)
  clear hK K hS; have hS := hS'; clear hS'
  try simp only [Act.put, List.setIfInBounds_toArray, List.set_cons_zero, List.set_cons_succ]
  try simp only [List.setIfInBounds_toArray, List.set_cons_zero, List.set_cons_succ] at hS
  refine wpAnyD_take (n := 10) (i := 4) (v := ?v4) rfl (by kernel_rfl) (by kernel_rfl) (by kernel_rfl) (by kernel_rfl) (SD_put (by decide)) (fun _ _ _ h => h) (closed_all (by kernel_rfl)) (Or.inl ⟨by rfl, ?y4⟩) hS ?r4
  case y4 =>
    intro X hX
    clear hX
    go_simp
    try with_reducible rfl
    try (rw [if_neg (by first | omega | (simp [ByteArray.size_append, ByteArray.size]; omega) | (simp only [ByteArray.size_append]; omega))])
  replace hS := (SD_put (n := 10) (i := 4) (by decide) _ _ (by first | kernel_rfl | simp)).2 hS
  try simp only [Act.put, List.setIfInBounds_toArray, List.set_cons_zero, List.set_cons_succ]
  try simp only [List.setIfInBounds_toArray, List.set_cons_zero, List.set_cons_succ] at hS
  refine wpAnyD_take (n := 10) (i := 5) (v := ?v5) rfl (by kernel_rfl) (by kernel_rfl) (by kernel_rfl) (by kernel_rfl) (SD_put (by decide)) (fun _ _ _ h => h) (closed_all (by kernel_rfl)) (Or.inl ⟨by rfl, ?y5⟩) hS ?r5
  case y5 =>
    intro X hX
    have xc := starD_late hX (m := 4) (by kernel_rfl) (.inr (by kernel_rfl))
    clear hX
    go_simp
    try with_reducible rfl
    try (rw [if_neg (by first | omega | (simp [ByteArray.size_append, ByteArray.size]; omega) | (simp only [ByteArray.size_append]; omega))])
  replace hS := (SD_put (n := 10) (i := 5) (by decide) _ _ (by first | kernel_rfl | simp)).2 hS
  try simp only [Act.put, List.setIfInBounds_toArray, List.set_cons_zero, List.set_cons_succ]
  try simp only [List.setIfInBounds_toArray, List.set_cons_zero, List.set_cons_succ] at hS
  refine wpAnyD_take (n := 10) (i := 6) (v := ?v6) rfl (by kernel_rfl) (by kernel_rfl) (by kernel_rfl) (by kernel_rfl) (SD_put (by decide)) (fun _ _ _ h => h) (closed_all (by kernel_rfl)) (Or.inl ⟨by rfl, ?y6⟩) hS ?r6
  case y6 =>
    intro X hX
    clear hX
    go_simp
    try with_reducible rfl
    try (rw [if_neg (by first | omega | (simp [ByteArray.size_append, ByteArray.size]; omega) | (simp only [ByteArray.size_append]; omega))])
  replace hS := (SD_put (n := 10) (i := 6) (by decide) _ _ (by first | kernel_rfl | simp)).2 hS
  try simp only [Act.put, List.setIfInBounds_toArray, List.set_cons_zero, List.set_cons_succ]
  try simp only [List.setIfInBounds_toArray, List.set_cons_zero, List.set_cons_succ] at hS
  refine wpAnyD_take (n := 10) (i := 7) (v := ?v7) rfl (by kernel_rfl) (by kernel_rfl) (by kernel_rfl) (by kernel_rfl) (SD_put (by decide)) (fun _ _ _ h => h) (closed_all (by kernel_rfl)) (Or.inl ⟨by rfl, ?y7⟩) hS ?r7
  case y7 =>
    intro X hX
    clear hX
    go_simp
    try with_reducible rfl
    try (rw [if_neg (by first | omega | (simp [ByteArray.size_append, ByteArray.size]; omega) | (simp only [ByteArray.size_append]; omega))])
  replace hS := (SD_put (n := 10) (i := 7) (by decide) _ _ (by first | kernel_rfl | simp)).2 hS
  try simp only [Act.put, List.setIfInBounds_toArray, List.set_cons_zero, List.set_cons_succ]
  try simp only [List.setIfInBounds_toArray, List.set_cons_zero, List.set_cons_succ] at hS
  refine wpAnyD_take (n := 10) (i := 8) (v := ?v8) rfl (by kernel_rfl) (by kernel_rfl) (by kernel_rfl) (by kernel_rfl) (SD_put (by decide)) (fun _ _ _ h => h) (closed_all (by kernel_rfl)) (Or.inl ⟨by rfl, ?y8⟩) hS ?r8
  case y8 =>
    intro X hX
    clear hX
    go_simp
    try with_reducible rfl
    try (rw [if_neg (by first | omega | (simp [ByteArray.size_append, ByteArray.size]; omega) | (simp only [ByteArray.size_append]; omega))])
  replace hS := (SD_put (n := 10) (i := 8) (by decide) _ _ (by first | kernel_rfl | simp)).2 hS
  try simp only [Act.put, List.setIfInBounds_toArray, List.set_cons_zero, List.set_cons_succ]
  try simp only [List.setIfInBounds_toArray, List.set_cons_zero, List.set_cons_succ] at hS
  refine wpAnyD_take (n := 10) (i := 9) (v := ?v9) rfl (by kernel_rfl) (by kernel_rfl) (by kernel_rfl) (by kernel_rfl) (SD_put (by decide)) (fun _ _ _ h => h) (closed_all (by kernel_rfl)) (Or.inl ⟨by rfl, ?y9⟩) hS ?r9
  case y9 =>
    intro X hX
    clear hX
    go_simp
    try with_reducible rfl
    try (rw [if_neg (by first | omega | (simp [ByteArray.size_append, ByteArray.size]; omega) | (simp only [ByteArray.size_append]; omega))])
  replace hS := (SD_put (n := 10) (i := 9) (by decide) _ _ (by first | kernel_rfl | simp)).2 hS
  try simp only [Act.put, List.setIfInBounds_toArray, List.set_cons_zero, List.set_cons_succ]
  try simp only [List.setIfInBounds_toArray, List.set_cons_zero, List.set_cons_succ] at hS
  refine wpAnyG_done (by kernel_rfl) ?_ _
  clear hS hC
  go_wp2_with (go_at_call 11; (with_reducible refine (Hc.out _).mono ?_); rintro e w2 ⟨rfl, g2, rfl⟩)
  go_ret2
  exact ⟨rfl, more_of_below (HBW.out.trans (by have hws := HBW.out.size; exact (by repeat' (first | (with_reducible exact Below.refl _ _) | (with_reducible assumption) | (with_reducible refine below_more ?_ ?_ _) | (with_reducible refine below_drewN ?_ _) | (with_reducible refine Below.drew ?_) | (with_reducible refine Below.alloc ?_ ?_ _) | (with_reducible refine Below.setCell ?_ ?_ _) | go_size | (simp [more_size]; done) | (simp [more_size]; omega)))))⟩
set_option maxRecDepth 100000 in
set_option maxHeartbeats 3200000 in
theorem rline3tt_any (z : Int)  (n : Int) (i : Nat) (w : World) (NM : ByteArray) (hNM : NM.size ≤ 10) (hi : i < 16) (hT : (As.scs As.conds)[i]? = some (.string NM)) (Rn : ByteArray) (hn : Rn.size ≤ 12) (Hn : Hid (∀ w, Calls Tryd.prog 12 #[.int .i64 n] w fun e w2 => e = .returned (.string Rn) ∧ ∃ g, w2 = more w g)) 
    (HD : Hid (∀ w, Calls Tryd.prog 9 #[.int .u32 z] w fun e w' => e = .returned (.tuple #[.agg #[.int .i64 3, .bool true, .bool true, .int .i64 (i : Int), .int .i64 0, .int .i64 0, .int .i64 0, .int .i64 n], .int .i64 0]) ∧ ∃ g, w' = more w g)) :
    Calls Tryd.prog 5 #[.int .u32 z] w fun e w' => e = .returned (.tuple #[.string (⟨#[66, 76]⟩ ++ (⟨#[46]⟩ ++ NM ++ ⟨#[32]⟩) ++ Rn), .int .i64 0]) ∧ ∃ g, w' = more w g := by
  go_enter Tryd.func5, Tryd.ntmps5
  go_wp2_with (go_at_call 9; (with_reducible refine (HD.out _).mono ?_); rintro e w2 ⟨rfl, g, rfl⟩)
  obtain ⟨bx, hbx⟩ : ∃ bx, bx = w.heap.size + g.o.size := ⟨_, rfl⟩
  have hc : ∀ (j : Nat) (xv : Value), (#[Value.int .i64 3, .bool true, .bool true, .int .i64 (i : Int), .int .i64 0, .int .i64 0, .int .i64 0, .int .i64 n] : Array Value)[j]? = some xv → ((more w g).alloc (.cells #[.int .i64 3, .bool true, .bool true, .int .i64 (i : Int), .int .i64 0, .int .i64 0, .int .i64 0, .int .i64 n] 33)).cell? ⟨bx, j, none⟩ = some xv := fun j xv h => by
    rw [hbx]
    have := (MapKept.heap_alloc (more w g) (.cells #[.int .i64 3, .bool true, .bool true, .int .i64 (i : Int), .int .i64 0, .int .i64 0, .int .i64 0, .int .i64 n] 33 (0, 0))).1
    rw [more_size] at this
    rw [cell_of_row _ _ _ _ _ _ this]; exact h
  have y0 := hc 0 _ rfl
  have y1 := hc 1 _ rfl
  have y2 := hc 2 _ rfl
  have y3 := hc 3 _ rfl
  have y4 := hc 4 _ rfl
  have y5 := hc 5 _ rfl
  have y6 := hc 6 _ rfl
  have y7 := hc 7 _ rfl
  rw [← hbx]
  have ybx : bx < ((more w g).alloc (.cells #[.int .i64 3, .bool true, .bool true, .int .i64 (i : Int), .int .i64 0, .int .i64 0, .int .i64 0, .int .i64 n] 33)).heap.size := by rw [As.sz3, more_size]; omega
  clear hc hbx
  have HBW : Below w.heap.size w ((more w g).alloc (.cells #[.int .i64 3, .bool true, .bool true, .int .i64 (i : Int), .int .i64 0, .int .i64 0, .int .i64 0, .int .i64 n] 33)) := (by repeat' (first | (with_reducible exact Below.refl _ _) | (with_reducible assumption) | (with_reducible refine below_more ?_ ?_ _) | (with_reducible refine below_drewN ?_ _) | (with_reducible refine Below.drew ?_) | (with_reducible refine Below.alloc ?_ ?_ _) | (with_reducible refine Below.setCell ?_ ?_ _) | go_size | (simp [more_size]; done) | (simp [more_size]; omega)))
  generalize ((more w g).alloc (.cells #[.int .i64 3, .bool true, .bool true, .int .i64 (i : Int), .int .i64 0, .int .i64 0, .int .i64 0, .int .i64 n] 33)) = W at *
  replace HBW := Lib.hid HBW
  have hi0 : (0 : Int) ≤ (i : Int) := by omega
  have hi1 : (i : Int) < 16 := by omega
  go_wp2_with fail
  have HW0 := Lib.hid (show (fun X => X.cell? ⟨bx, 3, none⟩ = some (.int .i64 (i : Int))) W.drew ∧ True from ⟨by simp [go_sem, *], trivial⟩)
  refine wp_region_G (SD 1 (fun X => X.cell? ⟨bx, 3, none⟩ = some (.int .i64 (i : Int))) (fun X => X.cell? ⟨W.heap.size, i, none⟩ = some (.string NM))) 10 (by kernel_rfl) (by kernel_rfl) ⟨HW0.out.1, fun h => absurd h (by decide)⟩ (fun hC hS => ?_)
  clear HW0
  refine wpAnyD_take (n := 10) (i := 0) (v := ?v0) rfl (by kernel_rfl) (by kernel_rfl) (by kernel_rfl) (by kernel_rfl) (SD_put (by decide)) (fun _ _ _ h => h) (closed_all (by kernel_rfl)) (Or.inl ⟨by rfl, ?y0⟩) hS ?r0
  case y0 =>
    intro X hX
    clear hX
    go_simp
    try with_reducible rfl
    try (rw [if_neg (by first | omega | (simp [ByteArray.size_append, ByteArray.size]; omega) | (simp only [ByteArray.size_append]; omega))])
  replace hS := (SD_put (n := 10) (i := 0) (by decide) _ _ (by first | kernel_rfl | simp)).2 hS
  try simp only [Act.put, List.setIfInBounds_toArray, List.set_cons_zero, List.set_cons_succ]
  try simp only [List.setIfInBounds_toArray, List.set_cons_zero, List.set_cons_succ] at hS
  refine wpAnyD_take (n := 10) (i := 2) (v := ?v2) rfl (by kernel_rfl) (by kernel_rfl) (by kernel_rfl) (by kernel_rfl) (SD_put (by decide)) (fun _ _ _ h => h) (closed_all (by kernel_rfl)) (Or.inl ⟨by rfl, ?y2⟩) hS ?r2
  case y2 =>
    intro X hX
    clear hX
    go_simp
    try with_reducible rfl
    try (rw [if_neg (by first | omega | (simp [ByteArray.size_append, ByteArray.size]; omega) | (simp only [ByteArray.size_append]; omega))])
  replace hS := (SD_put (n := 10) (i := 2) (by decide) _ _ (by first | kernel_rfl | simp)).2 hS
  try simp only [Act.put, List.setIfInBounds_toArray, List.set_cons_zero, List.set_cons_succ]
  try simp only [List.setIfInBounds_toArray, List.set_cons_zero, List.set_cons_succ] at hS
  refine wpAnyD_take (n := 10) (i := 3) (v := ?v3) rfl (by kernel_rfl) (by kernel_rfl) (by kernel_rfl) (by kernel_rfl) (SD_put (by decide)) (fun _ _ _ h => h) (closed_all (by kernel_rfl)) (Or.inl ⟨by rfl, ?y3⟩) hS ?r3
  case y3 =>
    intro X hX
    have xb := starD_base hX
    clear hX
    go_simp
    try with_reducible rfl
    try (rw [if_neg (by first | omega | (simp [ByteArray.size_append, ByteArray.size]; omega) | (simp only [ByteArray.size_append]; omega))])
  replace hS := (SD_put (n := 10) (i := 3) (by decide) _ _ (by first | kernel_rfl | simp)).2 hS
  try simp only [Act.put, List.setIfInBounds_toArray, List.set_cons_zero, List.set_cons_succ]
  try simp only [List.setIfInBounds_toArray, List.set_cons_zero, List.set_cons_succ] at hS
  refine wpAnyG_ready (rs := [1]) (by kernel_rfl) (by simp) ?_
  refine AllReadyG.cons rfl (fun K hK => ?_) AllReadyG.nil
  go_simp
  refine (rconds_any _).mono ?_; rintro e w2 ⟨rfl, rfl⟩
  go_simp
  refine hK.out _ _ ⟨by simp [go_sem, *], fun _ => by simp [go_sem, *]⟩ (fun hS' => ?_)
  clear hK K hS; have hS := hS'; clear hS'
  try simp only [Act.put, List.setIfInBounds_toArray, List.set_cons_zero, List.set_cons_succ]
  try simp only [List.setIfInBounds_toArray, List.set_cons_zero, List.set_cons_succ] at hS
  refine wpAnyD_take (n := 10) (i := 4) (v := ?v4) rfl (by kernel_rfl) (by kernel_rfl) (by kernel_rfl) (by kernel_rfl) (SD_put (by decide)) (fun _ _ _ h => h) (closed_all (by kernel_rfl)) (Or.inl ⟨by rfl, ?y4⟩) hS ?r4
  case y4 =>
    intro X hX
    clear hX
    go_simp
    try with_reducible rfl
    try (rw [if_neg (by first | omega | (simp [ByteArray.size_append, ByteArray.size]; omega) | (simp only [ByteArray.size_append]; omega))])
  replace hS := (SD_put (n := 10) (i := 4) (by decide) _ _ (by first | kernel_rfl | simp)).2 hS
  try simp only [Act.put, List.setIfInBounds_toArray, List.set_cons_zero, List.set_cons_succ]
  try simp only [List.setIfInBounds_toArray, List.set_cons_zero, List.set_cons_succ] at hS
  refine wpAnyD_take (n := 10) (i := 5) (v := ?v5) rfl (by kernel_rfl) (by kernel_rfl) (by kernel_rfl) (by kernel_rfl) (SD_put (by decide)) (fun _ _ _ h => h) (closed_all (by kernel_rfl)) (Or.inl ⟨by rfl, ?y5⟩) hS ?r5
  case y5 =>
    intro X hX
    have xc := starD_late hX (m := 4) (by kernel_rfl) (.inr (by kernel_rfl))
    clear hX
    go_simp
    try with_reducible rfl
    try (rw [if_neg (by first | omega | (simp [ByteArray.size_append, ByteArray.size]; omega) | (simp only [ByteArray.size_append]; omega))])
  replace hS := (SD_put (n := 10) (i := 5) (by decide) _ _ (by first | kernel_rfl | simp)).2 hS
  try simp only [Act.put, List.setIfInBounds_toArray, List.set_cons_zero, List.set_cons_succ]
  try simp only [List.setIfInBounds_toArray, List.set_cons_zero, List.set_cons_succ] at hS
  refine wpAnyD_take (n := 10) (i := 6) (v := ?v6) rfl (by kernel_rfl) (by kernel_rfl) (by kernel_rfl) (by kernel_rfl) (SD_put (by decide)) (fun _ _ _ h => h) (closed_all (by kernel_rfl)) (Or.inl ⟨by rfl, ?y6⟩) hS ?r6
  case y6 =>
    intro X hX
    clear hX
    go_simp
    try with_reducible rfl
    try (rw [if_neg (by first | omega | (simp [ByteArray.size_append, ByteArray.size]; omega) | (simp only [ByteArray.size_append]; omega))])
  replace hS := (SD_put (n := 10) (i := 6) (by decide) _ _ (by first | kernel_rfl | simp)).2 hS
  try simp only [Act.put, List.setIfInBounds_toArray, List.set_cons_zero, List.set_cons_succ]
  try simp only [List.setIfInBounds_toArray, List.set_cons_zero, List.set_cons_succ] at hS
  refine wpAnyD_take (n := 10) (i := 7) (v := ?v7) rfl (by kernel_rfl) (by kernel_rfl) (by kernel_rfl) (by kernel_rfl) (SD_put (by decide)) (fun _ _ _ h => h) (closed_all (by kernel_rfl)) (Or.inl ⟨by rfl, ?y7⟩) hS ?r7
  case y7 =>
    intro X hX
    clear hX
    go_simp
    try with_reducible rfl
    try (rw [if_neg (by first | omega | (simp [ByteArray.size_append, ByteArray.size]; omega) | (simp only [ByteArray.size_append]; omega))])
  replace hS := (SD_put (n := 10) (i := 7) (by decide) _ _ (by first | kernel_rfl | simp)).2 hS
  try simp only [Act.put, List.setIfInBounds_toArray, List.set_cons_zero, List.set_cons_succ]
  try simp only [List.setIfInBounds_toArray, List.set_cons_zero, List.set_cons_succ] at hS
  refine wpAnyD_take (n := 10) (i := 8) (v := ?v8) rfl (by kernel_rfl) (by kernel_rfl) (by kernel_rfl) (by kernel_rfl) (SD_put (by decide)) (fun _ _ _ h => h) (closed_all (by kernel_rfl)) (Or.inl ⟨by rfl, ?y8⟩) hS ?r8
  case y8 =>
    intro X hX
    clear hX
    go_simp
    try with_reducible rfl
    try (rw [if_neg (by first | omega | (simp [ByteArray.size_append, ByteArray.size]; omega) | (simp only [ByteArray.size_append]; omega))])
  replace hS := (SD_put (n := 10) (i := 8) (by decide) _ _ (by first | kernel_rfl | simp)).2 hS
  try simp only [Act.put, List.setIfInBounds_toArray, List.set_cons_zero, List.set_cons_succ]
  try simp only [List.setIfInBounds_toArray, List.set_cons_zero, List.set_cons_succ] at hS
  refine wpAnyD_take (n := 10) (i := 9) (v := ?v9) rfl (by kernel_rfl) (by kernel_rfl) (by kernel_rfl) (by kernel_rfl) (SD_put (by decide)) (fun _ _ _ h => h) (closed_all (by kernel_rfl)) (Or.inl ⟨by rfl, ?y9⟩) hS ?r9
  case y9 =>
    intro X hX
    clear hX
    go_simp
    try with_reducible rfl
    try (rw [if_neg (by first | omega | (simp [ByteArray.size_append, ByteArray.size]; omega) | (simp only [ByteArray.size_append]; omega))])
  replace hS := (SD_put (n := 10) (i := 9) (by decide) _ _ (by first | kernel_rfl | simp)).2 hS
  try simp only [Act.put, List.setIfInBounds_toArray, List.set_cons_zero, List.set_cons_succ]
  try simp only [List.setIfInBounds_toArray, List.set_cons_zero, List.set_cons_succ] at hS
  refine wpAnyG_done (by kernel_rfl) ?_ _
  clear hS hC
  go_wp2_with (go_at_call 12; (with_reducible refine (Hn.out _).mono ?_); rintro e w2 ⟨rfl, g2, rfl⟩)
  go_ret2
  exact ⟨rfl, more_of_below (HBW.out.trans (by have hws := HBW.out.size; exact (by repeat' (first | (with_reducible exact Below.refl _ _) | (with_reducible assumption) | (with_reducible refine below_more ?_ ?_ _) | (with_reducible refine below_drewN ?_ _) | (with_reducible refine Below.drew ?_) | (with_reducible refine Below.alloc ?_ ?_ _) | (with_reducible refine Below.setCell ?_ ?_ _) | go_size | (simp [more_size]; done) | (simp [more_size]; omega)))))⟩
end Go.Proofs.YtcckbmmjklahfaaDoor
