/- The walk of the law ConstsSets. Conditions: none. -/
import Derived.Test.YthcpedonpiihnaaLargeW
import Derived.Test.YthcpedonpiihnaaRSetW
import Derived.Test.YthcpedonpiihnaaAppendW
import Derived.Test.YthcpedonpiihnaaOpenV
namespace Go.Proofs.Ythcpedonpiihnaa
set_option linter.all false
open Go.RowKit
theorem info_pair : (Try.prog.info? 54).map (fun i => (i.zero, i.size, i.bytes)) = some (some (.agg #[.int .i64 0, .int .i64 0]), 2, 16) := by kernel_rfl
theorem pairs_one (ps : List (Int × Int)) : ∀ x ∈ pairCells ps, x.oneCell' = true := by
  intro x hx
  simp only [pairCells, List.mem_flatMap] at hx
  obtain ⟨p, _, hx⟩ := hx
  simp at hx
  rcases hx with rfl | rfl <;> rfl
set_option maxRecDepth 100000 in
set_option maxHeartbeats 1600000 in
theorem ConstsSets_any (v : Value) (ps : List (Int × Int)) (w : World) (hR : Reads w v ps.length 2 (pairCells ps)) :
    Calls Try.prog 4 #[v] w fun e w' => e = .returned (.bool true) ∧ Below w.heap.size w w' := by
  obtain ⟨a, c, rfl, hcm⟩ : ∃ a c, v = .slice a ps.length c ∧ c ≤ maxLen := by
    rcases hR.2 with ⟨h0, a, cap, rfl, hc⟩ | ⟨b, off, cap, rfl, _, hc, _⟩
    · exact ⟨a, cap, by rw [h0], hc⟩
    · exact ⟨_, cap, rfl, hc⟩
  by_cases hbig : 2000 < ps.length
  · have hb : (2000 : Int) < ps.length := by omega
    go_enter Try.func4, Try.ntmps4
    go_wp2_with (first | (go_at_call 17; refine (wakes12_any _).mono ?_; rintro e w3 ⟨rfl, g, rfl⟩))
    go_ret
    exact ⟨rfl, (by repeat' (first | (with_reducible exact Below.refl _ _) | (with_reducible assumption) | (with_reducible refine below_more ?_ ?_ _) | (with_reducible refine below_drewN ?_ _) | (with_reducible refine Below.drew ?_) | (with_reducible refine Below.alloc ?_ ?_ _) | (with_reducible refine Below.setCell ?_ ?_ _) | go_size | (simp [more_size]; done) | (simp [more_size]; omega)))⟩
  · have hb : ¬ (2000 : Int) < ps.length := by omega
    have hle : ps.length ≤ 2000 := by omega
    obtain ⟨i0, hi, hz0, hz1, hz2⟩ := info_parts info_pair
    have HR := Lib.hid hR
    have HL := Lib.hid (Reads.alloc hR (.cells #[] 54))
    clear hR
    go_enter Try.func4, Try.ntmps4
    go_wp2_with (at_builtin; refine wpList_append_reads rfl _ _ 33 rfl w.heap.size 54 i0 (.agg #[.int .i64 0, .int .i64 0]) 2 16 Try.underlying33 hi hz0 hz1 hz2 rfl (by decide) _ 0 [] rfl (owns_empty w _ _ _ (Nat.le_refl _)) _ ps.length (pairCells ps) rfl HL.out (pairs_one ps) (by unfold maxLen; omega) (by omega) (by simp) ?_)
    intro v1 w1 hown hgrow
    have hB1 := below_grown ((Below.refl w.heap.size w).alloc (Nat.le_refl _) (.cells #[] 54)) (by simp) hgrow (by intro k hk; simp [Value.ownBlock] at hk; omega)
    clear hgrow
    have HR1 := Lib.hid (show Reads w1 v1 ps.length 2 (pairCells ps) by have := Reads.of_owns hown; simpa using this)
    have HRW := Lib.hid (HR.out.below hB1)
    clear hown
    have hz1 := hB1.size
    go_wp2_with fail
    refine (Set_any _ ps _ HR1.out hle).mono ?_
    rintro e w' ⟨rfl, g, rfl⟩
    go_wp2_with fail
    refine (rSet_any _ ps _ ((HRW.out.more _).alloc _) hle).mono ?_
    rintro e w' ⟨rfl, g2, rfl⟩
    generalize Sp.setL ps 0 = r at *
    go_wp2_with (first | (go_at_call 20; refine (Same_eq _ _ _ _).mono ?_; rintro e w' ⟨rfl, g, rfl⟩) | (go_at_call 17; refine (wakes12_any _).mono ?_; rintro e w3 ⟨rfl, g, rfl⟩))
    go_ret
    exact ⟨rfl, (by repeat' (first | (with_reducible exact Below.refl _ _) | (with_reducible assumption) | (with_reducible refine below_more ?_ ?_ _) | (with_reducible refine below_drewN ?_ _) | (with_reducible refine Below.drew ?_) | (with_reducible refine Below.alloc ?_ ?_ _) | (with_reducible refine Below.setCell ?_ ?_ _) | go_size | (simp [more_size]; done) | (simp [more_size]; omega)))⟩
end Go.Proofs.Ythcpedonpiihnaa
