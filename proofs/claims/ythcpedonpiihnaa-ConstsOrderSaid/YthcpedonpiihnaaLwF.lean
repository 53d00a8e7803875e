/- The walk of the law ConstsOrder. Conditions: numbers lie in their bounds. -/
import Derived.Test.YthcpedonpiihnaaLargeW
import Derived.Test.YthcpedonpiihnaaAppendW
import Derived.Test.YthcpedonpiihnaaOrdP
import Derived.Deep.RegionHeld3
namespace Go.Proofs.Ythcpedonpiihnaa
set_option linter.all false
open Go.RowKit
theorem info_int : (Try.prog.info? 3).map (fun i => (i.zero, i.size, i.bytes)) = some (some (.int .i64 0), 1, 8) := by kernel_rfl
theorem owns_below {w w' : World} {base : Nat} {e : TypeId} {size : Nat} {v : Value} {n : Nat} {xs : List Value} (h : w.ownsRow base e size v n xs) (hb : Below w.heap.size w w') : w'.ownsRow base e size v n xs :=
  h.kept (row := none) ⟨hb.os, hb.tape, hb.output, hb.size, fun k hk _ => hb.block k hk⟩ (by cases hv : v.ownBlock <;> simp)
theorem reads_lit' (w : World) (p : Nat) (cs : Array Value) (e : TypeId) (n size : Nat) (hm : n ≤ maxLen) (hs : cs.size = n * size) (hp : p = w.heap.size) : Reads (w.alloc (.cells cs e)) (.slice (some ⟨p, 0, none⟩) n n) n size cs.toList := by
  subst hp; exact reads_lit w cs e n size hm hs
set_option maxRecDepth 100000 in
set_option maxHeartbeats 6400000 in
theorem ConstsOrder_no (fa na fb nb : Int) (ta tb : ByteArray) (w : World) (a0 : -9223372036854775808 ≤ na) (a1 : na < 9223372036854775808) (b0 : -9223372036854775808 ≤ nb) (b1 : nb < 9223372036854775808)
    (sa : ta.size ≤ 5000) (sb : tb.size ≤ 5000) (x y z : Int) (hz : z ≠ 0) (hr : Sp.twoF [60] fa na ta.data.toList fb nb tb.data.toList = (x, y, z)) :
    Calls Try.prog 6 #[.agg #[.int .i64 fa, .int .i64 na, .string ta], .agg #[.int .i64 fb, .int .i64 nb, .string tb]] w fun e w' => e = .returned (.bool true) ∧ Below w.heap.size w w' := by
  have hL : Sp.large [(fa, na, ta), (fb, nb, tb)] = false := by simp [Sp.large]; omega
  have s1 : ta.size < 4294967281 := by omega
  have s2 : tb.size < 4294967281 := by omega
  have TW := Lib.hid (Two_at (op := ⟨#[60]⟩) hr s1 s2 (by decide) a0 a1 b0 b1)
  have RT := Lib.hid (fun w => (rTwo_any ⟨#[60]⟩ fa na fb nb ta tb w s1 s2 a0 a1 b0 b1).mono fun e w' (h' : e = .returned (Sp.R (Sp.twoF [60] fa na ta.data.toList fb nb tb.data.toList)) ∧ _) => (by rw [hr] at h'; exact h' : e = .returned (Sp.R (x, y, z)) ∧ ∃ g, w' = more w g))
  have hzb : (z != 0) = true := by simpa using hz
  clear hr hz
  go_enter Try.func6, Try.ntmps6
  go_wp2_with fail
  refine (large_any _ [(fa, na, ta), (fb, nb, tb)] _ (reads_2 ?_ (by decide) (by decide) ?_ ?_ ?_ ?_ ?_ ?_)).mono ?_
  all_goals try (simp [go_sem]; done)
  rintro e w' ⟨rfl, rfl⟩
  go_wp2_with fail
  generalize hW : World.alloc _ _ = W
  have d0 : W.cell? ⟨w.heap.size, 0, none⟩ = some (.int .i64 fa) := by rw [← hW]; simp [go_sem]
  have d1 : W.cell? ⟨w.heap.size, 1, none⟩ = some (.int .i64 na) := by rw [← hW]; simp [go_sem]
  have d2 : W.cell? ⟨w.heap.size, 2, none⟩ = some (.string ta) := by rw [← hW]; simp [go_sem]
  have e0 : W.cell? ⟨w.heap.size + 1, 0, none⟩ = some (.int .i64 fb) := by rw [← hW]; simp [go_sem]
  have e1 : W.cell? ⟨w.heap.size + 1, 1, none⟩ = some (.int .i64 nb) := by rw [← hW]; simp [go_sem]
  have e2 : W.cell? ⟨w.heap.size + 1, 2, none⟩ = some (.string tb) := by rw [← hW]; simp [go_sem]
  have l0 : W.cell? ⟨w.heap.size + 1 + 1 + 1, 0, none⟩ = some (.string ⟨#[60]⟩) := by rw [← hW]; simp [go_sem]
  have z0 : w.heap.size < W.heap.size := by rw [← hW]; simp [go_sem]
  have z1 : w.heap.size + 1 < W.heap.size := by rw [← hW]; simp [go_sem]
  have z3 : w.heap.size + 1 + 1 + 1 < W.heap.size := by rw [← hW]; simp [go_sem]
  have hB : Below w.heap.size w W := by rw [← hW]; exact (by repeat' (first | (with_reducible exact Below.refl _ _) | (with_reducible assumption) | (with_reducible refine below_more ?_ ?_ _) | (with_reducible refine below_drewN ?_ _) | (with_reducible refine Below.drew ?_) | (with_reducible refine Below.alloc ?_ ?_ _) | (with_reducible refine Below.setCell ?_ ?_ _) | go_size | (simp [more_size]; done) | (simp [more_size]; omega)))
  clear hW
  generalize w.heap.size + 1 + 1 + 1 = pl at *
  generalize hpb : w.heap.size + 1 = pb at *
  clear hpb
  go_loopw [7] (fun i wr => i = .int .i64 0 ∧ wr = W) (fun _ _ => 0)
  case atStart => exact ⟨rfl, rfl⟩
  case round =>
    obtain ⟨rfl, rfl⟩ := hrel
    go_wp2_with fail
    go_region_held3 (fun w' => w.heap.size < w'.heap.size ∧ pb < w'.heap.size ∧ pl < w'.heap.size ∧ w'.cell? ⟨pl, 0, none⟩ = some (.string ⟨#[60]⟩) ∧ w'.cell? ⟨w.heap.size, 0, none⟩ = some (.int .i64 fa) ∧ w'.cell? ⟨w.heap.size, 1, none⟩ = some (.int .i64 na) ∧ w'.cell? ⟨w.heap.size, 2, none⟩ = some (.string ta) ∧ w'.cell? ⟨pb, 0, none⟩ = some (.int .i64 fb) ∧ w'.cell? ⟨pb, 1, none⟩ = some (.int .i64 nb) ∧ w'.cell? ⟨pb, 2, none⟩ = some (.string tb)) ((refine ⟨?_, ?_, ?_, ?_, ?_, ?_, ?_, ?_, ?_, ?_⟩ <;> simp [go_sem, *])) ((go_at_call 18; ((with_reducible refine (TW.out _).mono ?_); rintro e w' ⟨rfl, g, rfl⟩)))
    all_goals go_wp2_with fail
    all_goals (go_region_held3 (fun w' => w.heap.size < w'.heap.size ∧ pb < w'.heap.size ∧ pl < w'.heap.size ∧ w'.cell? ⟨pl, 0, none⟩ = some (.string ⟨#[60]⟩) ∧ w'.cell? ⟨w.heap.size, 0, none⟩ = some (.int .i64 fa) ∧ w'.cell? ⟨w.heap.size, 1, none⟩ = some (.int .i64 na) ∧ w'.cell? ⟨w.heap.size, 2, none⟩ = some (.string ta) ∧ w'.cell? ⟨pb, 0, none⟩ = some (.int .i64 fb) ∧ w'.cell? ⟨pb, 1, none⟩ = some (.int .i64 nb) ∧ w'.cell? ⟨pb, 2, none⟩ = some (.string tb)) ((refine ⟨?_, ?_, ?_, ?_, ?_, ?_, ?_, ?_, ?_, ?_⟩ <;> simp [go_sem, *])) ((go_at_call 19; ((with_reducible refine (RT.out _).mono ?_); rintro e w' ⟨rfl, g, rfl⟩))))
    all_goals go_wp2_with (first | (go_at_call 17; refine (wakes12_any _).mono ?_; rintro e w3 ⟨rfl, g, rfl⟩))
    all_goals go_ret
    all_goals exact ⟨rfl, (by repeat' (first | (with_reducible exact Below.refl _ _) | (with_reducible assumption) | (with_reducible refine below_more ?_ ?_ _) | (with_reducible refine below_drewN ?_ _) | (with_reducible refine Below.drew ?_) | (with_reducible refine Below.alloc ?_ ?_ _) | (with_reducible refine Below.setCell ?_ ?_ _) | go_size | (simp [more_size]; done) | (simp [more_size]; omega)))⟩
end Go.Proofs.Ythcpedonpiihnaa
