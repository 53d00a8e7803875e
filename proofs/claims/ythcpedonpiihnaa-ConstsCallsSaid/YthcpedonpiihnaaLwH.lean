/- The walk of the law ConstsCalls. Conditions: texts are no longer than a text may be. -/
import Derived.Test.YthcpedonpiihnaaRCallV
import Derived.Test.YthcpedonpiihnaaAppendW
import Derived.Test.YthcpedonpiihnaaOpenV
import Derived.Deep.RegionHeld3
namespace Go.Proofs.Ythcpedonpiihnaa
set_option linter.all false
open Go.RowKit
theorem info_val : (Try.prog.info? 23).map (fun i => (i.zero, i.size, i.bytes)) = some (some (.agg #[.int .i64 0, .int .i64 0, .string ⟨#[]⟩]), 3, 32) := by kernel_rfl
theorem vals_one (vs : List Va) : ∀ x ∈ valCells vs, x.oneCell' = true := by
  intro x hx
  simp only [valCells, List.mem_flatMap] at hx
  obtain ⟨p, _, hx⟩ := hx
  simp at hx
  rcases hx with rfl | rfl | rfl <;> rfl
theorem large_bd {vs : List Va} (h : Sp.large vs = false) (hf : ∀ x ∈ vs, VaFit x) : ∀ x ∈ vs, VaBd x := by
  intro x hx
  obtain ⟨h0, h1, _⟩ := hf x hx
  have : ¬ (5000 < x.2.2.size) := by
    intro hl
    have : Sp.large vs = true := List.any_eq_true.2 ⟨x, hx, by simpa using hl⟩
    rw [h] at this; cases this
  exact ⟨h0, h1, by omega⟩
theorem reads_shape {w : World} {v : Value} {n size : Nat} {xs : List Value} (h : Reads w v n size xs) : ∃ a c, v = .slice a n c ∧ n ≤ c ∧ c ≤ maxLen := by
  rcases h.2 with ⟨h0, a, cap, rfl, hc⟩ | ⟨b, off, cap, rfl, hn, hc, _⟩
  · exact ⟨a, cap, by rw [h0], by omega, hc⟩
  · exact ⟨_, cap, rfl, hn, hc⟩
set_option maxRecDepth 100000 in
set_option maxHeartbeats 3200000 in
theorem ConstsCalls_any (name : ByteArray) (v : Value) (vs : List Va) (w : World) (hR : Reads w v vs.length 3 (valCells vs)) (hf : ∀ x ∈ vs, VaFit x) :
    Calls Try.prog 14 #[.string name, v] w fun e w' => e = .returned (.bool true) ∧ Below w.heap.size w w' := by
  obtain ⟨a, c, rfl, hnc, hcm⟩ := reads_shape hR
  have hl64 : c ≤ 9223372036854775807 := by unfold maxLen at hcm; omega
  have HR := Lib.hid hR
  by_cases hbig : 100 < vs.length
  · have hb : (100 : Int) < vs.length := by omega
    clear hR
    go_enter Try.func14, Try.ntmps14
    go_wp2_with (first | (go_at_call 17; refine (wakes12_any _).mono ?_; rintro e w3 ⟨rfl, g, rfl⟩))
    go_ret
    exact ⟨rfl, (by repeat' (first | (with_reducible exact Below.refl _ _) | (with_reducible assumption) | (with_reducible refine below_more ?_ ?_ _) | (with_reducible refine below_drewN ?_ _) | (with_reducible refine Below.drew ?_) | (with_reducible refine Below.alloc ?_ ?_ _) | (with_reducible refine Below.setCell ?_ ?_ _) | go_size | (simp [more_size]; done) | (simp [more_size]; omega)))⟩
  · have hb : ¬ (100 : Int) < vs.length := by omega
    have hle : vs.length ≤ 100 := by omega
    cases hlg : Sp.large vs
    · have hbd := large_bd hlg hf
      obtain ⟨i0, hi, hz0, hz1, hz2⟩ := info_parts info_val
      have HL := Lib.hid (Reads.alloc hR (.cells #[] 23))
      have HBD := Lib.hid hbd
      clear hR hf hbd
      go_enter Try.func14, Try.ntmps14
      go_wp2_with (first | (go_at_call 16; refine (large_any _ vs _ HR.out).mono ?_; rintro e w' ⟨rfl, rfl⟩) | (at_builtin; refine wpList_append_reads rfl _ _ 65 rfl w.heap.size 23 i0 (.agg #[.int .i64 0, .int .i64 0, .string ⟨#[]⟩]) 3 32 Try.underlying65 hi hz0 hz1 hz2 rfl (by decide) _ 0 [] rfl (owns_empty w _ _ _ (Nat.le_refl _)) _ vs.length (valCells vs) rfl HL.out (vals_one vs) (by unfold maxLen; omega) (by omega) (by simp) ?_))
      intro v1 w1 hown hgrow
      have hB1 := below_grown ((Below.refl w.heap.size w).alloc (Nat.le_refl _) (.cells #[] 23)) (by simp) hgrow (by intro k hk; simp [Value.ownBlock] at hk; omega)
      clear hgrow
      have hR1 : Reads w1 v1 vs.length 3 (valCells vs) := by have := Reads.of_owns hown; simpa using this
      obtain ⟨a1, c1, rfl, hnc1, hcm1⟩ := reads_shape hR1
      have hl641 : c1 ≤ 9223372036854775807 := by unfold maxLen at hcm1; omega
      have HR1 := Lib.hid hR1
      have HRW := Lib.hid (HR.out.below hB1)
      clear hown hR1
      have hz1 := hB1.size
      go_wp2_with fail
      refine (Call_any name _ vs _ HR1.out hle HBD.out).mono ?_
      rintro e w' ⟨rfl, g, rfl⟩
      go_wp2_with fail
      refine (rCall_any name _ vs _ ((HRW.out.more _).alloc _) hle HBD.out).mono ?_
      rintro e w' ⟨rfl, g2, rfl⟩
      generalize Sp.callsF name.toList vs = r at *
      go_wp2_with fail
      generalize hWc : World.alloc _ _ = Wc
      have hz2 : w1.heap.size ≤ Wc.heap.size := by rw [← hWc]; simp [more_size]; omega
      have hcw : ∀ b o, b < w1.heap.size → Wc.cell? ⟨b, o, none⟩ = w1.cell? ⟨b, o, none⟩ := fun b o hb => by
        have h1 : b < w1.heap.size + g.o.size := by omega
        have h2 : b < w1.heap.size + g.o.size + 1 := by omega
        have h3 : b < w1.heap.size + g.o.size + 1 + g2.o.size := by omega
        have h4 : b < w1.heap.size + g.o.size + 1 + g2.o.size + 1 := by omega
        rw [← hWc]; clear hWc hz2; simp [go_sem, *]
      have p0 : Wc.cell? ⟨w1.heap.size + g.o.size, 0, none⟩ = some (.int .i64 r.1) := by rw [← hWc]; simp [go_sem]
      have p1 : Wc.cell? ⟨w1.heap.size + g.o.size, 1, none⟩ = some (.int .i64 r.2.1) := by rw [← hWc]; simp [go_sem]
      have p2 : Wc.cell? ⟨w1.heap.size + g.o.size, 2, none⟩ = some (.string ⟨#[]⟩) := by rw [← hWc]; simp [go_sem]
      have q0 : Wc.cell? ⟨w1.heap.size + g.o.size + 1 + g2.o.size, 0, none⟩ = some (.int .i64 r.1) := by rw [← hWc]; simp [go_sem]
      have q1 : Wc.cell? ⟨w1.heap.size + g.o.size + 1 + g2.o.size, 1, none⟩ = some (.int .i64 r.2.1) := by rw [← hWc]; simp [go_sem]
      have q2 : Wc.cell? ⟨w1.heap.size + g.o.size + 1 + g2.o.size, 2, none⟩ = some (.string ⟨#[]⟩) := by rw [← hWc]; simp [go_sem]
      have y0 : w1.heap.size + g.o.size < Wc.heap.size := by rw [← hWc]; simp [more_size]; omega
      have y1 : w1.heap.size + g.o.size + 1 + g2.o.size < Wc.heap.size := by rw [← hWc]; simp [more_size]
      have hBc : Below w.heap.size w Wc := by rw [← hWc]; exact (by repeat' (first | (with_reducible exact Below.refl _ _) | (with_reducible assumption) | (with_reducible refine below_more ?_ ?_ _) | (with_reducible refine below_drewN ?_ _) | (with_reducible refine Below.drew ?_) | (with_reducible refine Below.alloc ?_ ?_ _) | (with_reducible refine Below.setCell ?_ ?_ _) | go_size | (simp [more_size]; done) | (simp [more_size]; omega)))
      clear hWc
      have HCW := Lib.hid hcw
      clear hcw
      generalize hpp : w1.heap.size + g.o.size = pp at *
      generalize hpq : pp + 1 + g2.o.size = pq at *
      clear hpp hpq
      go_loopw [10] (fun i wr => ∃ (k : Nat) (g : Came), k ≤ vs.length ∧ i = .int .i64 k ∧ wr = more Wc g) (fun i _ => vs.length - (intOf i).toNat)
      case atStart =>
        obtain ⟨g, hg⟩ := more_refl Wc
        exact ⟨0, g, by omega, rfl, hg⟩
      case round =>
        obtain ⟨k, g3, hk, rfl, rfl⟩ := hrel
        by_cases hlt : k < vs.length
        · obtain ⟨b, off, hbl, c0, c1, c2⟩ : ∃ b off, b < w1.heap.size ∧ a = some ⟨b, off, none⟩ ∧ True ∧ ∀ o u, (valCells vs)[o]? = some u → w1.cell? ⟨b, off + o, none⟩ = some u := by
            rcases HRW.out.2 with ⟨h0, _⟩ | ⟨b, off, cap, he, _, _, hb', hc⟩
            · omega
            · simp only [Value.slice.injEq] at he
              exact ⟨b, off, hb', he.1, trivial, hc⟩
          obtain ⟨b', off', hbl', d0, d1, d2⟩ : ∃ b off, b < w1.heap.size ∧ a1 = some ⟨b, off, none⟩ ∧ True ∧ ∀ o u, (valCells vs)[o]? = some u → w1.cell? ⟨b, off + o, none⟩ = some u := by
            rcases HR1.out.2 with ⟨h0, _⟩ | ⟨b, off, cap, he, _, _, hb', hc⟩
            · omega
            · simp only [Value.slice.injEq] at he
              exact ⟨b, off, hb', he.1, trivial, hc⟩
          subst c0 d0
          obtain ⟨v0, v1, v2⟩ := valCells_at vs k hlt
          have x0 : Wc.cell? ⟨b, off + k * 3, none⟩ = some (.int .i64 vs[k].1) := by rw [HCW.out _ _ hbl]; exact c2 _ _ v0
          have x1 : Wc.cell? ⟨b, off + k * 3 + 1, none⟩ = some (.int .i64 vs[k].2.1) := by rw [HCW.out _ _ hbl, Nat.add_assoc]; exact c2 _ _ v1
          have x2 : Wc.cell? ⟨b, off + k * 3 + 2, none⟩ = some (.string vs[k].2.2) := by rw [HCW.out _ _ hbl, Nat.add_assoc]; exact c2 _ _ v2
          have z0 : Wc.cell? ⟨b', off' + k * 3, none⟩ = some (.int .i64 vs[k].1) := by rw [HCW.out _ _ hbl']; exact d2 _ _ v0
          have z1 : Wc.cell? ⟨b', off' + k * 3 + 1, none⟩ = some (.int .i64 vs[k].2.1) := by rw [HCW.out _ _ hbl', Nat.add_assoc]; exact d2 _ _ v1
          have z2 : Wc.cell? ⟨b', off' + k * 3 + 2, none⟩ = some (.string vs[k].2.2) := by rw [HCW.out _ _ hbl', Nat.add_assoc]; exact d2 _ _ v2
          have hb1 : b < Wc.heap.size := by omega
          have hb2 : b' < Wc.heap.size := by omega
          generalize vs[k].1 = f at *
          generalize vs[k].2.1 = n at *
          generalize vs[k].2.2 = t at *
          have i1 : (0 : Int) ≤ (k : Int) := by omega
          have i2 : (k : Int) < (vs.length : Int) := by omega
          clear c1 c2 d1 d2 v0 v1 v2
          go_wp2_with fail
          go_region_held3 (fun w' => b < w'.heap.size ∧ b' < w'.heap.size ∧ w'.cell? ⟨b, off + k * 3, none⟩ = some (.int .i64 f) ∧ w'.cell? ⟨b, off + k * 3 + 1, none⟩ = some (.int .i64 n) ∧ w'.cell? ⟨b, off + k * 3 + 2, none⟩ = some (.string t) ∧ w'.cell? ⟨b', off' + k * 3, none⟩ = some (.int .i64 f) ∧ w'.cell? ⟨b', off' + k * 3 + 1, none⟩ = some (.int .i64 n) ∧ w'.cell? ⟨b', off' + k * 3 + 2, none⟩ = some (.string t)) ((refine ⟨?_, ?_, ?_, ?_, ?_, ?_, ?_, ?_⟩ <;> simp [go_sem, *])) ((go_at_call 20; refine (Same_eq _ _ _ _).mono ?_; rintro e w' ⟨rfl, g, rfl⟩))
          go_wp2_with fail
          go_roundw
          case rel => exact ⟨k + 1, _, by omega, by go_num, by first | rfl | (rw [more_more])⟩
          case measure => simp [intOf]; omega
        · go_wp2_with (first | (go_at_call 20; refine (Same_eq _ _ _ _).mono ?_; rintro e w' ⟨rfl, g, rfl⟩) | (go_at_call 17; refine (wakes12_any _).mono ?_; rintro e w3 ⟨rfl, g, rfl⟩))
          go_ret
          exact ⟨rfl, (by repeat' (first | (with_reducible exact Below.refl _ _) | (with_reducible assumption) | (with_reducible refine below_more ?_ ?_ _) | (with_reducible refine below_drewN ?_ _) | (with_reducible refine Below.drew ?_) | (with_reducible refine Below.alloc ?_ ?_ _) | (with_reducible refine Below.setCell ?_ ?_ _) | go_size | (simp [more_size]; done) | (simp [more_size]; omega)))⟩
    · clear hR hf
      go_enter Try.func14, Try.ntmps14
      go_wp2_with (first | (go_at_call 16; refine (large_any _ vs _ HR.out).mono ?_; rintro e w' ⟨rfl, rfl⟩) | (go_at_call 17; refine (wakes12_any _).mono ?_; rintro e w3 ⟨rfl, g, rfl⟩))
      go_ret
      exact ⟨rfl, (by repeat' (first | (with_reducible exact Below.refl _ _) | (with_reducible assumption) | (with_reducible refine below_more ?_ ?_ _) | (with_reducible refine below_drewN ?_ _) | (with_reducible refine Below.drew ?_) | (with_reducible refine Below.alloc ?_ ?_ _) | (with_reducible refine Below.setCell ?_ ?_ _) | go_size | (simp [more_size]; done) | (simp [more_size]; omega)))⟩
end Go.Proofs.Ythcpedonpiihnaa
