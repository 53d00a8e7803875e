/- The walk of the law ArithConsts, some of its cases. Written by gen_arc.py. Conditions: what the callees tell is given. -/
import Derived.Test.YthcpedonpiihnaaLwI0
namespace Go.Proofs.Ythcpedonpiihnaa
set_option linter.all false
open Go.RowKit
set_option maxRecDepth 100000 in
set_option maxHeartbeats 3200000 in
theorem ArithConsts_3L (op : ByteArray) (n0 n1 : Int) (w : World) (rn : Int) (is there : Bool) (cf cn ce kn : Int) (known : Bool)
    (hTW : ∀ w, Calls Try.prog 18 #[.string op, .agg #[.int .i64 1, .int .i64 n0, .string ⟨#[]⟩], .agg #[.int .i64 1, .int .i64 n1, .string ⟨#[]⟩]] w fun e w' => e = .returned (Sp.R (1, rn, 0)) ∧ ∃ g, w' = more w g)
    (hIW : ∀ w, Calls Try.prog 27 #[.string op, .int .i64 n0, .int .i64 n1] w fun e w' => e = .returned (Sp.three (rn, 0, true)) ∧ ∃ g, w' = more w g)
    (hRW : ∀ w, Calls Try.prog 29 #[.string op, .int .i64 n0, .int .i64 n1] w fun e w' => e = .returned (Sp.two (is, there)) ∧ w = w')
    (hC : ∀ v w, Reads w v 2 3 (valCells [((1, n0, ⟨#[]⟩) : Va), (1, n1, ⟨#[]⟩)]) → Calls Try.prog 44 #[.string ⟨#[76, 83, 76]⟩, v] w fun e w' => e = .returned (Sp.R (cf, cn, ce)) ∧ ∃ g, w' = more w g)
    (hKW : ∀ w, Calls Try.prog 42 #[.string ⟨#[76, 83, 76]⟩, .int .i64 n0, .int .i64 n1] w fun e w' => e = .returned (Sp.nb (kn, known)) ∧ w = w')
     
    (hF : ce = 0 → known = true ∧ kn = cn) :
    Calls Try.prog 15 #[.string op, .string ⟨#[76, 83, 76]⟩, .agg #[.int .i64 n0, .int .i64 n1]] w fun e w' => e = .returned (.bool true) ∧ Below w.heap.size w w' := by
  have TW := Lib.hid hTW; have IW := Lib.hid hIW; have RW := Lib.hid hRW; have KW := Lib.hid hKW; have C2 := Lib.hid hC
  clear hTW hIW hRW hC hKW
  obtain ⟨i0, hi, hz0, hz1, hz2⟩ := info_parts info_valu
  have hm1 : 1 ≤ maxLen := by decide
  have hp3 : 0 < 3 := by decide
  by_cases hz : ce = 0
  · subst hz
    obtain ⟨rfl, rfl⟩ := hF rfl
    go_enter Try.func15, Try.ntmps15
    go_wp2_with fail
    go_region
    all_goals (go_wp2_with (first | (go_at_call 18; ((with_reducible refine (TW.out _).mono ?_); rintro e w' ⟨rfl, g, rfl⟩)) | (go_at_call 27; ((with_reducible refine (IW.out _).mono ?_); rintro e w' ⟨rfl, g, rfl⟩)) | (go_at_call 29; ((with_reducible refine (RW.out _).mono ?_); rintro e w' ⟨rfl, rfl⟩)) | (go_at_call 42; ((with_reducible refine (KW.out _).mono ?_); rintro e w' ⟨rfl, rfl⟩)) | (go_at_call 24; refine (mo (wakes20_any _)).mono ?_; rintro e w' ⟨rfl, g, rfl⟩) | (at_builtin; refine wpList_append_reads rfl _ _ 65 rfl (w.heap.size + 1) 23 i0 (.agg #[.int .i64 0, .int .i64 0, .string ⟨#[]⟩]) 3 32 Try.underlying65 hi hz0 hz1 hz2 rfl hp3 (.slice (some ⟨_, 0, none⟩) 1 1) 1 [.int .i64 1, .int .i64 n0, .string ⟨#[]⟩] rfl ?_ (.slice (some ⟨_, 0, none⟩) 1 1) 1 [.int .i64 1, .int .i64 n1, .string ⟨#[]⟩] rfl ?_ ?_ ?_ ?_ ?_ ?_; (focus (refine World.ownsRow.alloc (owns_litp _ _ _ #[.int .i64 1, .int .i64 n0, .string ⟨#[]⟩] 23 1 3 ?_ hm1 rfl ?_) _; (focus (simp [more_size]; omega)); (focus (simp [more_size]; done)))); (focus (refine reads_litp _ _ #[.int .i64 1, .int .i64 n1, .string ⟨#[]⟩] 23 1 3 hm1 rfl ?_; (simp [more_size]; done))); (focus (intro q hq; simp at hq; rcases hq with rfl | rfl | rfl <;> rfl)); (focus (unfold maxLen; omega)); (focus omega); (focus (simp [more_size]; omega)))))
    all_goals intro v1 w1 hown hgrow
    all_goals (have hB1 : Below (w.heap.size + 1) (w.alloc (.cells #[.int .i64 n0, .int .i64 n1] 54)) w1 := (by refine below_grown ?_ ?_ hgrow (by intro q hq; simp [Value.ownBlock] at hq; omega); (focus ((repeat' (first | (with_reducible exact Below.refl _ _) | (with_reducible assumption) | (with_reducible refine below_more ?_ ?_ _) | (with_reducible refine below_drewN ?_ _) | (with_reducible refine Below.drew ?_) | (with_reducible refine Below.alloc ?_ ?_ _) | (with_reducible refine Below.setCell ?_ ?_ _) | go_size | (simp [more_size]; done) | (simp [more_size]; omega))); done)); (focus (simp [more_size]; omega))))
    all_goals (have HR2 := Lib.hid (show Reads w1 v1 2 3 (valCells [(1, n0, ⟨#[]⟩), (1, n1, ⟨#[]⟩)]) by (have h2 := Reads.of_owns hown; simpa [valCells] using h2)))
    all_goals (have nc0 : w1.cell? ⟨w.heap.size, 0, none⟩ = some (.int .i64 n0) := (by rw [hB1.cell (p := ⟨w.heap.size, 0, none⟩) (by simp)]; simp [go_sem]))
    all_goals (have nc1 : w1.cell? ⟨w.heap.size, 1, none⟩ = some (.int .i64 n1) := (by rw [hB1.cell (p := ⟨w.heap.size, 1, none⟩) (by simp)]; simp [go_sem]))
    all_goals (have zz : w.heap.size < w1.heap.size := (by have h3 := hB1.size; simp at h3; omega))
    all_goals (have hBw : Below w.heap.size w w1 := ((Below.refl w.heap.size w).alloc (Nat.le_refl _) _).trans (hB1.mono (by omega)))
    all_goals clear hown hgrow hB1
    all_goals (go_wp2_with (first | (go_at_call 18; ((with_reducible refine (TW.out _).mono ?_); rintro e w' ⟨rfl, g, rfl⟩)) | (go_at_call 27; ((with_reducible refine (IW.out _).mono ?_); rintro e w' ⟨rfl, g, rfl⟩)) | (go_at_call 29; ((with_reducible refine (RW.out _).mono ?_); rintro e w' ⟨rfl, rfl⟩)) | (go_at_call 42; ((with_reducible refine (KW.out _).mono ?_); rintro e w' ⟨rfl, rfl⟩)) | (go_at_call 24; refine (mo (wakes20_any _)).mono ?_; rintro e w' ⟨rfl, g, rfl⟩) | (go_at_call 44; refine (C2.out _ _ HR2.out).mono ?_; rintro e w' ⟨rfl, g, rfl⟩)))
    all_goals go_ret
    all_goals exact ⟨rfl, (by repeat' (first | (with_reducible exact Below.refl _ _) | (with_reducible assumption) | (with_reducible refine below_more ?_ ?_ _) | (with_reducible refine below_drewN ?_ _) | (with_reducible refine Below.drew ?_) | (with_reducible refine Below.alloc ?_ ?_ _) | (with_reducible refine Below.setCell ?_ ?_ _) | go_size | (simp [more_size]; done) | (simp [more_size]; omega)))⟩
  · have hzb : (ce != 0) = true := by simpa using hz
    clear hF hz
    go_enter Try.func15, Try.ntmps15
    go_wp2_with fail
    go_region
    all_goals (go_wp2_with (first | (go_at_call 18; ((with_reducible refine (TW.out _).mono ?_); rintro e w' ⟨rfl, g, rfl⟩)) | (go_at_call 27; ((with_reducible refine (IW.out _).mono ?_); rintro e w' ⟨rfl, g, rfl⟩)) | (go_at_call 29; ((with_reducible refine (RW.out _).mono ?_); rintro e w' ⟨rfl, rfl⟩)) | (go_at_call 42; ((with_reducible refine (KW.out _).mono ?_); rintro e w' ⟨rfl, rfl⟩)) | (go_at_call 24; refine (mo (wakes20_any _)).mono ?_; rintro e w' ⟨rfl, g, rfl⟩) | (at_builtin; refine wpList_append_reads rfl _ _ 65 rfl (w.heap.size + 1) 23 i0 (.agg #[.int .i64 0, .int .i64 0, .string ⟨#[]⟩]) 3 32 Try.underlying65 hi hz0 hz1 hz2 rfl hp3 (.slice (some ⟨_, 0, none⟩) 1 1) 1 [.int .i64 1, .int .i64 n0, .string ⟨#[]⟩] rfl ?_ (.slice (some ⟨_, 0, none⟩) 1 1) 1 [.int .i64 1, .int .i64 n1, .string ⟨#[]⟩] rfl ?_ ?_ ?_ ?_ ?_ ?_; (focus (refine World.ownsRow.alloc (owns_litp _ _ _ #[.int .i64 1, .int .i64 n0, .string ⟨#[]⟩] 23 1 3 ?_ hm1 rfl ?_) _; (focus (simp [more_size]; omega)); (focus (simp [more_size]; done)))); (focus (refine reads_litp _ _ #[.int .i64 1, .int .i64 n1, .string ⟨#[]⟩] 23 1 3 hm1 rfl ?_; (simp [more_size]; done))); (focus (intro q hq; simp at hq; rcases hq with rfl | rfl | rfl <;> rfl)); (focus (unfold maxLen; omega)); (focus omega); (focus (simp [more_size]; omega)))))
    all_goals intro v1 w1 hown hgrow
    all_goals (have hB1 : Below (w.heap.size + 1) (w.alloc (.cells #[.int .i64 n0, .int .i64 n1] 54)) w1 := (by refine below_grown ?_ ?_ hgrow (by intro q hq; simp [Value.ownBlock] at hq; omega); (focus ((repeat' (first | (with_reducible exact Below.refl _ _) | (with_reducible assumption) | (with_reducible refine below_more ?_ ?_ _) | (with_reducible refine below_drewN ?_ _) | (with_reducible refine Below.drew ?_) | (with_reducible refine Below.alloc ?_ ?_ _) | (with_reducible refine Below.setCell ?_ ?_ _) | go_size | (simp [more_size]; done) | (simp [more_size]; omega))); done)); (focus (simp [more_size]; omega))))
    all_goals (have HR2 := Lib.hid (show Reads w1 v1 2 3 (valCells [(1, n0, ⟨#[]⟩), (1, n1, ⟨#[]⟩)]) by (have h2 := Reads.of_owns hown; simpa [valCells] using h2)))
    all_goals (have nc0 : w1.cell? ⟨w.heap.size, 0, none⟩ = some (.int .i64 n0) := (by rw [hB1.cell (p := ⟨w.heap.size, 0, none⟩) (by simp)]; simp [go_sem]))
    all_goals (have nc1 : w1.cell? ⟨w.heap.size, 1, none⟩ = some (.int .i64 n1) := (by rw [hB1.cell (p := ⟨w.heap.size, 1, none⟩) (by simp)]; simp [go_sem]))
    all_goals (have zz : w.heap.size < w1.heap.size := (by have h3 := hB1.size; simp at h3; omega))
    all_goals (have hBw : Below w.heap.size w w1 := ((Below.refl w.heap.size w).alloc (Nat.le_refl _) _).trans (hB1.mono (by omega)))
    all_goals clear hown hgrow hB1
    all_goals (go_wp2_with (first | (go_at_call 18; ((with_reducible refine (TW.out _).mono ?_); rintro e w' ⟨rfl, g, rfl⟩)) | (go_at_call 27; ((with_reducible refine (IW.out _).mono ?_); rintro e w' ⟨rfl, g, rfl⟩)) | (go_at_call 29; ((with_reducible refine (RW.out _).mono ?_); rintro e w' ⟨rfl, rfl⟩)) | (go_at_call 42; ((with_reducible refine (KW.out _).mono ?_); rintro e w' ⟨rfl, rfl⟩)) | (go_at_call 24; refine (mo (wakes20_any _)).mono ?_; rintro e w' ⟨rfl, g, rfl⟩) | (go_at_call 44; refine (C2.out _ _ HR2.out).mono ?_; rintro e w' ⟨rfl, g, rfl⟩)))
    all_goals go_ret
    all_goals exact ⟨rfl, (by repeat' (first | (with_reducible exact Below.refl _ _) | (with_reducible assumption) | (with_reducible refine below_more ?_ ?_ _) | (with_reducible refine below_drewN ?_ _) | (with_reducible refine Below.drew ?_) | (with_reducible refine Below.alloc ?_ ?_ _) | (with_reducible refine Below.setCell ?_ ?_ _) | go_size | (simp [more_size]; done) | (simp [more_size]; omega)))⟩
set_option maxRecDepth 100000 in
set_option maxHeartbeats 3200000 in
theorem ArithConsts_3A (op : ByteArray) (n0 n1 : Int) (w : World) (rn : Int) (is there : Bool) (cf cn ce kn : Int) (known : Bool)
    (hTW : ∀ w, Calls Try.prog 18 #[.string op, .agg #[.int .i64 1, .int .i64 n0, .string ⟨#[]⟩], .agg #[.int .i64 1, .int .i64 n1, .string ⟨#[]⟩]] w fun e w' => e = .returned (Sp.R (1, rn, 0)) ∧ ∃ g, w' = more w g)
    (hIW : ∀ w, Calls Try.prog 27 #[.string op, .int .i64 n0, .int .i64 n1] w fun e w' => e = .returned (Sp.three (rn, 0, true)) ∧ ∃ g, w' = more w g)
    (hRW : ∀ w, Calls Try.prog 29 #[.string op, .int .i64 n0, .int .i64 n1] w fun e w' => e = .returned (Sp.two (is, there)) ∧ w = w')
    (hC : ∀ v w, Reads w v 2 3 (valCells [((1, n0, ⟨#[]⟩) : Va), (1, n1, ⟨#[]⟩)]) → Calls Try.prog 44 #[.string ⟨#[65, 83, 82]⟩, v] w fun e w' => e = .returned (Sp.R (cf, cn, ce)) ∧ ∃ g, w' = more w g)
    (hKW : ∀ w, Calls Try.prog 42 #[.string ⟨#[65, 83, 82]⟩, .int .i64 n0, .int .i64 n1] w fun e w' => e = .returned (Sp.nb (kn, known)) ∧ w = w')
     
    (hF : ce = 0 → known = true ∧ kn = cn) :
    Calls Try.prog 15 #[.string op, .string ⟨#[65, 83, 82]⟩, .agg #[.int .i64 n0, .int .i64 n1]] w fun e w' => e = .returned (.bool true) ∧ Below w.heap.size w w' := by
  have TW := Lib.hid hTW; have IW := Lib.hid hIW; have RW := Lib.hid hRW; have KW := Lib.hid hKW; have C2 := Lib.hid hC
  clear hTW hIW hRW hC hKW
  obtain ⟨i0, hi, hz0, hz1, hz2⟩ := info_parts info_valu
  have hm1 : 1 ≤ maxLen := by decide
  have hp3 : 0 < 3 := by decide
  by_cases hz : ce = 0
  · subst hz
    obtain ⟨rfl, rfl⟩ := hF rfl
    go_enter Try.func15, Try.ntmps15
    go_wp2_with fail
    go_region
    all_goals (go_wp2_with (first | (go_at_call 18; ((with_reducible refine (TW.out _).mono ?_); rintro e w' ⟨rfl, g, rfl⟩)) | (go_at_call 27; ((with_reducible refine (IW.out _).mono ?_); rintro e w' ⟨rfl, g, rfl⟩)) | (go_at_call 29; ((with_reducible refine (RW.out _).mono ?_); rintro e w' ⟨rfl, rfl⟩)) | (go_at_call 42; ((with_reducible refine (KW.out _).mono ?_); rintro e w' ⟨rfl, rfl⟩)) | (go_at_call 24; refine (mo (wakes20_any _)).mono ?_; rintro e w' ⟨rfl, g, rfl⟩) | (at_builtin; refine wpList_append_reads rfl _ _ 65 rfl (w.heap.size + 1) 23 i0 (.agg #[.int .i64 0, .int .i64 0, .string ⟨#[]⟩]) 3 32 Try.underlying65 hi hz0 hz1 hz2 rfl hp3 (.slice (some ⟨_, 0, none⟩) 1 1) 1 [.int .i64 1, .int .i64 n0, .string ⟨#[]⟩] rfl ?_ (.slice (some ⟨_, 0, none⟩) 1 1) 1 [.int .i64 1, .int .i64 n1, .string ⟨#[]⟩] rfl ?_ ?_ ?_ ?_ ?_ ?_; (focus (refine World.ownsRow.alloc (owns_litp _ _ _ #[.int .i64 1, .int .i64 n0, .string ⟨#[]⟩] 23 1 3 ?_ hm1 rfl ?_) _; (focus (simp [more_size]; omega)); (focus (simp [more_size]; done)))); (focus (refine reads_litp _ _ #[.int .i64 1, .int .i64 n1, .string ⟨#[]⟩] 23 1 3 hm1 rfl ?_; (simp [more_size]; done))); (focus (intro q hq; simp at hq; rcases hq with rfl | rfl | rfl <;> rfl)); (focus (unfold maxLen; omega)); (focus omega); (focus (simp [more_size]; omega)))))
    all_goals intro v1 w1 hown hgrow
    all_goals (have hB1 : Below (w.heap.size + 1) (w.alloc (.cells #[.int .i64 n0, .int .i64 n1] 54)) w1 := (by refine below_grown ?_ ?_ hgrow (by intro q hq; simp [Value.ownBlock] at hq; omega); (focus ((repeat' (first | (with_reducible exact Below.refl _ _) | (with_reducible assumption) | (with_reducible refine below_more ?_ ?_ _) | (with_reducible refine below_drewN ?_ _) | (with_reducible refine Below.drew ?_) | (with_reducible refine Below.alloc ?_ ?_ _) | (with_reducible refine Below.setCell ?_ ?_ _) | go_size | (simp [more_size]; done) | (simp [more_size]; omega))); done)); (focus (simp [more_size]; omega))))
    all_goals (have HR2 := Lib.hid (show Reads w1 v1 2 3 (valCells [(1, n0, ⟨#[]⟩), (1, n1, ⟨#[]⟩)]) by (have h2 := Reads.of_owns hown; simpa [valCells] using h2)))
    all_goals (have nc0 : w1.cell? ⟨w.heap.size, 0, none⟩ = some (.int .i64 n0) := (by rw [hB1.cell (p := ⟨w.heap.size, 0, none⟩) (by simp)]; simp [go_sem]))
    all_goals (have nc1 : w1.cell? ⟨w.heap.size, 1, none⟩ = some (.int .i64 n1) := (by rw [hB1.cell (p := ⟨w.heap.size, 1, none⟩) (by simp)]; simp [go_sem]))
    all_goals (have zz : w.heap.size < w1.heap.size := (by have h3 := hB1.size; simp at h3; omega))
    all_goals (have hBw : Below w.heap.size w w1 := ((Below.refl w.heap.size w).alloc (Nat.le_refl _) _).trans (hB1.mono (by omega)))
    all_goals clear hown hgrow hB1
    all_goals (go_wp2_with (first | (go_at_call 18; ((with_reducible refine (TW.out _).mono ?_); rintro e w' ⟨rfl, g, rfl⟩)) | (go_at_call 27; ((with_reducible refine (IW.out _).mono ?_); rintro e w' ⟨rfl, g, rfl⟩)) | (go_at_call 29; ((with_reducible refine (RW.out _).mono ?_); rintro e w' ⟨rfl, rfl⟩)) | (go_at_call 42; ((with_reducible refine (KW.out _).mono ?_); rintro e w' ⟨rfl, rfl⟩)) | (go_at_call 24; refine (mo (wakes20_any _)).mono ?_; rintro e w' ⟨rfl, g, rfl⟩) | (go_at_call 44; refine (C2.out _ _ HR2.out).mono ?_; rintro e w' ⟨rfl, g, rfl⟩)))
    all_goals go_ret
    all_goals exact ⟨rfl, (by repeat' (first | (with_reducible exact Below.refl _ _) | (with_reducible assumption) | (with_reducible refine below_more ?_ ?_ _) | (with_reducible refine below_drewN ?_ _) | (with_reducible refine Below.drew ?_) | (with_reducible refine Below.alloc ?_ ?_ _) | (with_reducible refine Below.setCell ?_ ?_ _) | go_size | (simp [more_size]; done) | (simp [more_size]; omega)))⟩
  · have hzb : (ce != 0) = true := by simpa using hz
    clear hF hz
    go_enter Try.func15, Try.ntmps15
    go_wp2_with fail
    go_region
    all_goals (go_wp2_with (first | (go_at_call 18; ((with_reducible refine (TW.out _).mono ?_); rintro e w' ⟨rfl, g, rfl⟩)) | (go_at_call 27; ((with_reducible refine (IW.out _).mono ?_); rintro e w' ⟨rfl, g, rfl⟩)) | (go_at_call 29; ((with_reducible refine (RW.out _).mono ?_); rintro e w' ⟨rfl, rfl⟩)) | (go_at_call 42; ((with_reducible refine (KW.out _).mono ?_); rintro e w' ⟨rfl, rfl⟩)) | (go_at_call 24; refine (mo (wakes20_any _)).mono ?_; rintro e w' ⟨rfl, g, rfl⟩) | (at_builtin; refine wpList_append_reads rfl _ _ 65 rfl (w.heap.size + 1) 23 i0 (.agg #[.int .i64 0, .int .i64 0, .string ⟨#[]⟩]) 3 32 Try.underlying65 hi hz0 hz1 hz2 rfl hp3 (.slice (some ⟨_, 0, none⟩) 1 1) 1 [.int .i64 1, .int .i64 n0, .string ⟨#[]⟩] rfl ?_ (.slice (some ⟨_, 0, none⟩) 1 1) 1 [.int .i64 1, .int .i64 n1, .string ⟨#[]⟩] rfl ?_ ?_ ?_ ?_ ?_ ?_; (focus (refine World.ownsRow.alloc (owns_litp _ _ _ #[.int .i64 1, .int .i64 n0, .string ⟨#[]⟩] 23 1 3 ?_ hm1 rfl ?_) _; (focus (simp [more_size]; omega)); (focus (simp [more_size]; done)))); (focus (refine reads_litp _ _ #[.int .i64 1, .int .i64 n1, .string ⟨#[]⟩] 23 1 3 hm1 rfl ?_; (simp [more_size]; done))); (focus (intro q hq; simp at hq; rcases hq with rfl | rfl | rfl <;> rfl)); (focus (unfold maxLen; omega)); (focus omega); (focus (simp [more_size]; omega)))))
    all_goals intro v1 w1 hown hgrow
    all_goals (have hB1 : Below (w.heap.size + 1) (w.alloc (.cells #[.int .i64 n0, .int .i64 n1] 54)) w1 := (by refine below_grown ?_ ?_ hgrow (by intro q hq; simp [Value.ownBlock] at hq; omega); (focus ((repeat' (first | (with_reducible exact Below.refl _ _) | (with_reducible assumption) | (with_reducible refine below_more ?_ ?_ _) | (with_reducible refine below_drewN ?_ _) | (with_reducible refine Below.drew ?_) | (with_reducible refine Below.alloc ?_ ?_ _) | (with_reducible refine Below.setCell ?_ ?_ _) | go_size | (simp [more_size]; done) | (simp [more_size]; omega))); done)); (focus (simp [more_size]; omega))))
    all_goals (have HR2 := Lib.hid (show Reads w1 v1 2 3 (valCells [(1, n0, ⟨#[]⟩), (1, n1, ⟨#[]⟩)]) by (have h2 := Reads.of_owns hown; simpa [valCells] using h2)))
    all_goals (have nc0 : w1.cell? ⟨w.heap.size, 0, none⟩ = some (.int .i64 n0) := (by rw [hB1.cell (p := ⟨w.heap.size, 0, none⟩) (by simp)]; simp [go_sem]))
    all_goals (have nc1 : w1.cell? ⟨w.heap.size, 1, none⟩ = some (.int .i64 n1) := (by rw [hB1.cell (p := ⟨w.heap.size, 1, none⟩) (by simp)]; simp [go_sem]))
    all_goals (have zz : w.heap.size < w1.heap.size := (by have h3 := hB1.size; simp at h3; omega))
    all_goals (have hBw : Below w.heap.size w w1 := ((Below.refl w.heap.size w).alloc (Nat.le_refl _) _).trans (hB1.mono (by omega)))
    all_goals clear hown hgrow hB1
    all_goals (go_wp2_with (first | (go_at_call 18; ((with_reducible refine (TW.out _).mono ?_); rintro e w' ⟨rfl, g, rfl⟩)) | (go_at_call 27; ((with_reducible refine (IW.out _).mono ?_); rintro e w' ⟨rfl, g, rfl⟩)) | (go_at_call 29; ((with_reducible refine (RW.out _).mono ?_); rintro e w' ⟨rfl, rfl⟩)) | (go_at_call 42; ((with_reducible refine (KW.out _).mono ?_); rintro e w' ⟨rfl, rfl⟩)) | (go_at_call 24; refine (mo (wakes20_any _)).mono ?_; rintro e w' ⟨rfl, g, rfl⟩) | (go_at_call 44; refine (C2.out _ _ HR2.out).mono ?_; rintro e w' ⟨rfl, g, rfl⟩)))
    all_goals go_ret
    all_goals exact ⟨rfl, (by repeat' (first | (with_reducible exact Below.refl _ _) | (with_reducible assumption) | (with_reducible refine below_more ?_ ?_ _) | (with_reducible refine below_drewN ?_ _) | (with_reducible refine Below.drew ?_) | (with_reducible refine Below.alloc ?_ ?_ _) | (with_reducible refine Below.setCell ?_ ?_ _) | go_size | (simp [more_size]; done) | (simp [more_size]; omega)))⟩
set_option maxRecDepth 100000 in
set_option maxHeartbeats 3200000 in
theorem ArithConsts_3R (op : ByteArray) (n0 n1 : Int) (w : World) (rn : Int) (is there : Bool) (cf cn ce kn : Int) (known : Bool)
    (hTW : ∀ w, Calls Try.prog 18 #[.string op, .agg #[.int .i64 1, .int .i64 n0, .string ⟨#[]⟩], .agg #[.int .i64 1, .int .i64 n1, .string ⟨#[]⟩]] w fun e w' => e = .returned (Sp.R (1, rn, 0)) ∧ ∃ g, w' = more w g)
    (hIW : ∀ w, Calls Try.prog 27 #[.string op, .int .i64 n0, .int .i64 n1] w fun e w' => e = .returned (Sp.three (rn, 0, true)) ∧ ∃ g, w' = more w g)
    (hRW : ∀ w, Calls Try.prog 29 #[.string op, .int .i64 n0, .int .i64 n1] w fun e w' => e = .returned (Sp.two (is, there)) ∧ w = w')
    (hC : ∀ v w, Reads w v 2 3 (valCells [((1, n0, ⟨#[]⟩) : Va), (1, n1, ⟨#[]⟩)]) → Calls Try.prog 44 #[.string ⟨#[82, 79, 82]⟩, v] w fun e w' => e = .returned (Sp.R (cf, cn, ce)) ∧ ∃ g, w' = more w g)
    (hKW : ∀ w, Calls Try.prog 42 #[.string ⟨#[82, 79, 82]⟩, .int .i64 n0, .int .i64 n1] w fun e w' => e = .returned (Sp.nb (kn, known)) ∧ w = w')
     
    (hF : ce = 0 → known = true ∧ kn = cn) :
    Calls Try.prog 15 #[.string op, .string ⟨#[82, 79, 82]⟩, .agg #[.int .i64 n0, .int .i64 n1]] w fun e w' => e = .returned (.bool true) ∧ Below w.heap.size w w' := by
  have TW := Lib.hid hTW; have IW := Lib.hid hIW; have RW := Lib.hid hRW; have KW := Lib.hid hKW; have C2 := Lib.hid hC
  clear hTW hIW hRW hC hKW
  obtain ⟨i0, hi, hz0, hz1, hz2⟩ := info_parts info_valu
  have hm1 : 1 ≤ maxLen := by decide
  have hp3 : 0 < 3 := by decide
  by_cases hz : ce = 0
  · subst hz
    obtain ⟨rfl, rfl⟩ := hF rfl
    go_enter Try.func15, Try.ntmps15
    go_wp2_with fail
    go_region
    all_goals (go_wp2_with (first | (go_at_call 18; ((with_reducible refine (TW.out _).mono ?_); rintro e w' ⟨rfl, g, rfl⟩)) | (go_at_call 27; ((with_reducible refine (IW.out _).mono ?_); rintro e w' ⟨rfl, g, rfl⟩)) | (go_at_call 29; ((with_reducible refine (RW.out _).mono ?_); rintro e w' ⟨rfl, rfl⟩)) | (go_at_call 42; ((with_reducible refine (KW.out _).mono ?_); rintro e w' ⟨rfl, rfl⟩)) | (go_at_call 24; refine (mo (wakes20_any _)).mono ?_; rintro e w' ⟨rfl, g, rfl⟩) | (at_builtin; refine wpList_append_reads rfl _ _ 65 rfl (w.heap.size + 1) 23 i0 (.agg #[.int .i64 0, .int .i64 0, .string ⟨#[]⟩]) 3 32 Try.underlying65 hi hz0 hz1 hz2 rfl hp3 (.slice (some ⟨_, 0, none⟩) 1 1) 1 [.int .i64 1, .int .i64 n0, .string ⟨#[]⟩] rfl ?_ (.slice (some ⟨_, 0, none⟩) 1 1) 1 [.int .i64 1, .int .i64 n1, .string ⟨#[]⟩] rfl ?_ ?_ ?_ ?_ ?_ ?_; (focus (refine World.ownsRow.alloc (owns_litp _ _ _ #[.int .i64 1, .int .i64 n0, .string ⟨#[]⟩] 23 1 3 ?_ hm1 rfl ?_) _; (focus (simp [more_size]; omega)); (focus (simp [more_size]; done)))); (focus (refine reads_litp _ _ #[.int .i64 1, .int .i64 n1, .string ⟨#[]⟩] 23 1 3 hm1 rfl ?_; (simp [more_size]; done))); (focus (intro q hq; simp at hq; rcases hq with rfl | rfl | rfl <;> rfl)); (focus (unfold maxLen; omega)); (focus omega); (focus (simp [more_size]; omega)))))
    all_goals intro v1 w1 hown hgrow
    all_goals (have hB1 : Below (w.heap.size + 1) (w.alloc (.cells #[.int .i64 n0, .int .i64 n1] 54)) w1 := (by refine below_grown ?_ ?_ hgrow (by intro q hq; simp [Value.ownBlock] at hq; omega); (focus ((repeat' (first | (with_reducible exact Below.refl _ _) | (with_reducible assumption) | (with_reducible refine below_more ?_ ?_ _) | (with_reducible refine below_drewN ?_ _) | (with_reducible refine Below.drew ?_) | (with_reducible refine Below.alloc ?_ ?_ _) | (with_reducible refine Below.setCell ?_ ?_ _) | go_size | (simp [more_size]; done) | (simp [more_size]; omega))); done)); (focus (simp [more_size]; omega))))
    all_goals (have HR2 := Lib.hid (show Reads w1 v1 2 3 (valCells [(1, n0, ⟨#[]⟩), (1, n1, ⟨#[]⟩)]) by (have h2 := Reads.of_owns hown; simpa [valCells] using h2)))
    all_goals (have nc0 : w1.cell? ⟨w.heap.size, 0, none⟩ = some (.int .i64 n0) := (by rw [hB1.cell (p := ⟨w.heap.size, 0, none⟩) (by simp)]; simp [go_sem]))
    all_goals (have nc1 : w1.cell? ⟨w.heap.size, 1, none⟩ = some (.int .i64 n1) := (by rw [hB1.cell (p := ⟨w.heap.size, 1, none⟩) (by simp)]; simp [go_sem]))
    all_goals (have zz : w.heap.size < w1.heap.size := (by have h3 := hB1.size; simp at h3; omega))
    all_goals (have hBw : Below w.heap.size w w1 := ((Below.refl w.heap.size w).alloc (Nat.le_refl _) _).trans (hB1.mono (by omega)))
    all_goals clear hown hgrow hB1
    all_goals (go_wp2_with (first | (go_at_call 18; ((with_reducible refine (TW.out _).mono ?_); rintro e w' ⟨rfl, g, rfl⟩)) | (go_at_call 27; ((with_reducible refine (IW.out _).mono ?_); rintro e w' ⟨rfl, g, rfl⟩)) | (go_at_call 29; ((with_reducible refine (RW.out _).mono ?_); rintro e w' ⟨rfl, rfl⟩)) | (go_at_call 42; ((with_reducible refine (KW.out _).mono ?_); rintro e w' ⟨rfl, rfl⟩)) | (go_at_call 24; refine (mo (wakes20_any _)).mono ?_; rintro e w' ⟨rfl, g, rfl⟩) | (go_at_call 44; refine (C2.out _ _ HR2.out).mono ?_; rintro e w' ⟨rfl, g, rfl⟩)))
    all_goals go_ret
    all_goals exact ⟨rfl, (by repeat' (first | (with_reducible exact Below.refl _ _) | (with_reducible assumption) | (with_reducible refine below_more ?_ ?_ _) | (with_reducible refine below_drewN ?_ _) | (with_reducible refine Below.drew ?_) | (with_reducible refine Below.alloc ?_ ?_ _) | (with_reducible refine Below.setCell ?_ ?_ _) | go_size | (simp [more_size]; done) | (simp [more_size]; omega)))⟩
  · have hzb : (ce != 0) = true := by simpa using hz
    clear hF hz
    go_enter Try.func15, Try.ntmps15
    go_wp2_with fail
    go_region
    all_goals (go_wp2_with (first | (go_at_call 18; ((with_reducible refine (TW.out _).mono ?_); rintro e w' ⟨rfl, g, rfl⟩)) | (go_at_call 27; ((with_reducible refine (IW.out _).mono ?_); rintro e w' ⟨rfl, g, rfl⟩)) | (go_at_call 29; ((with_reducible refine (RW.out _).mono ?_); rintro e w' ⟨rfl, rfl⟩)) | (go_at_call 42; ((with_reducible refine (KW.out _).mono ?_); rintro e w' ⟨rfl, rfl⟩)) | (go_at_call 24; refine (mo (wakes20_any _)).mono ?_; rintro e w' ⟨rfl, g, rfl⟩) | (at_builtin; refine wpList_append_reads rfl _ _ 65 rfl (w.heap.size + 1) 23 i0 (.agg #[.int .i64 0, .int .i64 0, .string ⟨#[]⟩]) 3 32 Try.underlying65 hi hz0 hz1 hz2 rfl hp3 (.slice (some ⟨_, 0, none⟩) 1 1) 1 [.int .i64 1, .int .i64 n0, .string ⟨#[]⟩] rfl ?_ (.slice (some ⟨_, 0, none⟩) 1 1) 1 [.int .i64 1, .int .i64 n1, .string ⟨#[]⟩] rfl ?_ ?_ ?_ ?_ ?_ ?_; (focus (refine World.ownsRow.alloc (owns_litp _ _ _ #[.int .i64 1, .int .i64 n0, .string ⟨#[]⟩] 23 1 3 ?_ hm1 rfl ?_) _; (focus (simp [more_size]; omega)); (focus (simp [more_size]; done)))); (focus (refine reads_litp _ _ #[.int .i64 1, .int .i64 n1, .string ⟨#[]⟩] 23 1 3 hm1 rfl ?_; (simp [more_size]; done))); (focus (intro q hq; simp at hq; rcases hq with rfl | rfl | rfl <;> rfl)); (focus (unfold maxLen; omega)); (focus omega); (focus (simp [more_size]; omega)))))
    all_goals intro v1 w1 hown hgrow
    all_goals (have hB1 : Below (w.heap.size + 1) (w.alloc (.cells #[.int .i64 n0, .int .i64 n1] 54)) w1 := (by refine below_grown ?_ ?_ hgrow (by intro q hq; simp [Value.ownBlock] at hq; omega); (focus ((repeat' (first | (with_reducible exact Below.refl _ _) | (with_reducible assumption) | (with_reducible refine below_more ?_ ?_ _) | (with_reducible refine below_drewN ?_ _) | (with_reducible refine Below.drew ?_) | (with_reducible refine Below.alloc ?_ ?_ _) | (with_reducible refine Below.setCell ?_ ?_ _) | go_size | (simp [more_size]; done) | (simp [more_size]; omega))); done)); (focus (simp [more_size]; omega))))
    all_goals (have HR2 := Lib.hid (show Reads w1 v1 2 3 (valCells [(1, n0, ⟨#[]⟩), (1, n1, ⟨#[]⟩)]) by (have h2 := Reads.of_owns hown; simpa [valCells] using h2)))
    all_goals (have nc0 : w1.cell? ⟨w.heap.size, 0, none⟩ = some (.int .i64 n0) := (by rw [hB1.cell (p := ⟨w.heap.size, 0, none⟩) (by simp)]; simp [go_sem]))
    all_goals (have nc1 : w1.cell? ⟨w.heap.size, 1, none⟩ = some (.int .i64 n1) := (by rw [hB1.cell (p := ⟨w.heap.size, 1, none⟩) (by simp)]; simp [go_sem]))
    all_goals (have zz : w.heap.size < w1.heap.size := (by have h3 := hB1.size; simp at h3; omega))
    all_goals (have hBw : Below w.heap.size w w1 := ((Below.refl w.heap.size w).alloc (Nat.le_refl _) _).trans (hB1.mono (by omega)))
    all_goals clear hown hgrow hB1
    all_goals (go_wp2_with (first | (go_at_call 18; ((with_reducible refine (TW.out _).mono ?_); rintro e w' ⟨rfl, g, rfl⟩)) | (go_at_call 27; ((with_reducible refine (IW.out _).mono ?_); rintro e w' ⟨rfl, g, rfl⟩)) | (go_at_call 29; ((with_reducible refine (RW.out _).mono ?_); rintro e w' ⟨rfl, rfl⟩)) | (go_at_call 42; ((with_reducible refine (KW.out _).mono ?_); rintro e w' ⟨rfl, rfl⟩)) | (go_at_call 24; refine (mo (wakes20_any _)).mono ?_; rintro e w' ⟨rfl, g, rfl⟩) | (go_at_call 44; refine (C2.out _ _ HR2.out).mono ?_; rintro e w' ⟨rfl, g, rfl⟩)))
    all_goals go_ret
    all_goals exact ⟨rfl, (by repeat' (first | (with_reducible exact Below.refl _ _) | (with_reducible assumption) | (with_reducible refine below_more ?_ ?_ _) | (with_reducible refine below_drewN ?_ _) | (with_reducible refine Below.drew ?_) | (with_reducible refine Below.alloc ?_ ?_ _) | (with_reducible refine Below.setCell ?_ ?_ _) | go_size | (simp [more_size]; done) | (simp [more_size]; omega)))⟩
set_option maxRecDepth 100000 in
set_option maxHeartbeats 3200000 in
theorem ArithConsts_3N (op name : ByteArray) (n0 n1 : Int) (w : World) (rn : Int) (is there : Bool) (cf cn ce kn : Int) (known : Bool)
    (hTW : ∀ w, Calls Try.prog 18 #[.string op, .agg #[.int .i64 1, .int .i64 n0, .string ⟨#[]⟩], .agg #[.int .i64 1, .int .i64 n1, .string ⟨#[]⟩]] w fun e w' => e = .returned (Sp.R (1, rn, 0)) ∧ ∃ g, w' = more w g)
    (hIW : ∀ w, Calls Try.prog 27 #[.string op, .int .i64 n0, .int .i64 n1] w fun e w' => e = .returned (Sp.three (rn, 0, true)) ∧ ∃ g, w' = more w g)
    (hRW : ∀ w, Calls Try.prog 29 #[.string op, .int .i64 n0, .int .i64 n1] w fun e w' => e = .returned (Sp.two (is, there)) ∧ w = w')
    (hC : ∀ v w, Reads w v 1 3 (valCells [((1, n0, ⟨#[]⟩) : Va)]) → Calls Try.prog 44 #[.string name, v] w fun e w' => e = .returned (Sp.R (cf, cn, ce)) ∧ ∃ g, w' = more w g)
    (hKW : ∀ w, Calls Try.prog 42 #[.string name, .int .i64 n0, .int .i64 n1] w fun e w' => e = .returned (Sp.nb (kn, known)) ∧ w = w')
     (t1 : (name.toList == [76, 83, 76]) = false) (t2 : (name.toList == [65, 83, 82]) = false) (t3 : (name.toList == [82, 79, 82]) = false)
    (hF : ce = 0 → known = true ∧ kn = cn) :
    Calls Try.prog 15 #[.string op, .string name, .agg #[.int .i64 n0, .int .i64 n1]] w fun e w' => e = .returned (.bool true) ∧ Below w.heap.size w w' := by
  have TW := Lib.hid hTW; have IW := Lib.hid hIW; have RW := Lib.hid hRW; have KW := Lib.hid hKW; have C1 := Lib.hid hC
  clear hTW hIW hRW hC hKW
  obtain ⟨i0, hi, hz0, hz1, hz2⟩ := info_parts info_valu
  have hm1 : 1 ≤ maxLen := by decide
  have hp3 : 0 < 3 := by decide
  by_cases hz : ce = 0
  · subst hz
    obtain ⟨rfl, rfl⟩ := hF rfl
    go_enter Try.func15, Try.ntmps15
    go_wp2_with fail
    go_region
    all_goals (go_wp2_with (first | (go_at_call 18; ((with_reducible refine (TW.out _).mono ?_); rintro e w' ⟨rfl, g, rfl⟩)) | (go_at_call 27; ((with_reducible refine (IW.out _).mono ?_); rintro e w' ⟨rfl, g, rfl⟩)) | (go_at_call 29; ((with_reducible refine (RW.out _).mono ?_); rintro e w' ⟨rfl, rfl⟩)) | (go_at_call 42; ((with_reducible refine (KW.out _).mono ?_); rintro e w' ⟨rfl, rfl⟩)) | (go_at_call 24; refine (mo (wakes20_any _)).mono ?_; rintro e w' ⟨rfl, g, rfl⟩) | (go_at_call 44; refine (C1.out _ _ (reads_litp _ _ #[.int .i64 1, .int .i64 n0, .string ⟨#[]⟩] 23 1 3 hm1 rfl ?_)).mono ?_; (focus (simp [more_size]; done)); rintro e w' ⟨rfl, g, rfl⟩)))
    all_goals go_ret
    all_goals exact ⟨rfl, (by repeat' (first | (with_reducible exact Below.refl _ _) | (with_reducible assumption) | (with_reducible refine below_more ?_ ?_ _) | (with_reducible refine below_drewN ?_ _) | (with_reducible refine Below.drew ?_) | (with_reducible refine Below.alloc ?_ ?_ _) | (with_reducible refine Below.setCell ?_ ?_ _) | go_size | (simp [more_size]; done) | (simp [more_size]; omega)))⟩
  · have hzb : (ce != 0) = true := by simpa using hz
    clear hF hz
    go_enter Try.func15, Try.ntmps15
    go_wp2_with fail
    go_region
    all_goals (go_wp2_with (first | (go_at_call 18; ((with_reducible refine (TW.out _).mono ?_); rintro e w' ⟨rfl, g, rfl⟩)) | (go_at_call 27; ((with_reducible refine (IW.out _).mono ?_); rintro e w' ⟨rfl, g, rfl⟩)) | (go_at_call 29; ((with_reducible refine (RW.out _).mono ?_); rintro e w' ⟨rfl, rfl⟩)) | (go_at_call 42; ((with_reducible refine (KW.out _).mono ?_); rintro e w' ⟨rfl, rfl⟩)) | (go_at_call 24; refine (mo (wakes20_any _)).mono ?_; rintro e w' ⟨rfl, g, rfl⟩) | (go_at_call 44; refine (C1.out _ _ (reads_litp _ _ #[.int .i64 1, .int .i64 n0, .string ⟨#[]⟩] 23 1 3 hm1 rfl ?_)).mono ?_; (focus (simp [more_size]; done)); rintro e w' ⟨rfl, g, rfl⟩)))
    all_goals go_ret
    all_goals exact ⟨rfl, (by repeat' (first | (with_reducible exact Below.refl _ _) | (with_reducible assumption) | (with_reducible refine below_more ?_ ?_ _) | (with_reducible refine below_drewN ?_ _) | (with_reducible refine Below.drew ?_) | (with_reducible refine Below.alloc ?_ ?_ _) | (with_reducible refine Below.setCell ?_ ?_ _) | go_size | (simp [more_size]; done) | (simp [more_size]; omega)))⟩
end Go.Proofs.Ythcpedonpiihnaa
