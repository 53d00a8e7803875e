/- The walk of the law ConstsOrder where the relations hold, and all its cases. Conditions: numbers lie in their bounds. -/
import Derived.Test.YthcpedonpiihnaaLwF
import Derived.BigQuiet
import Derived.Deep.QuietTactic
namespace Go.Proofs.Ythcpedonpiihnaa
set_option linter.all false
open Go.RowKit
def sixOps : List ByteArray := [⟨#[60]⟩, ⟨#[61]⟩, ⟨#[62]⟩, ⟨#[60, 61]⟩, ⟨#[35]⟩, ⟨#[62, 61]⟩]
def sixVals (d : Int) : List Int := [Sp.tn (decide (d < 0)), Sp.tn (d == 0), Sp.tn (decide (0 < d)), Sp.tn (decide (d ≤ 0)), Sp.tn (d != 0), Sp.tn (decide (0 ≤ d))]
theorem six_facts (d : Int) : ∃ v0 v1 v2 v3 v4 v5 : Int, sixVals d = [v0, v1, v2, v3, v4, v5] ∧ v0 + v1 + v2 = 1 ∧ v3 = v0 + v1 ∧ v4 = 1 - v1 ∧ v5 = v1 + v2 ∧ (0 ≤ v0 ∧ v0 ≤ 1) ∧ (0 ≤ v1 ∧ v1 ≤ 1) ∧ (0 ≤ v2 ∧ v2 ≤ 1) := by
  refine ⟨_, _, _, _, _, _, rfl, ?_⟩
  rcases Int.lt_trichotomy d 0 with h | h | h
  · have h1 : ¬ 0 < d := by omega
    have h2 : d ≤ 0 := by omega
    have h3 : ¬ 0 ≤ d := by omega
    have h4 : ¬ d = 0 := by omega
    simp [Sp.tn, h, h1, h2, h3, h4]
  · subst h
    simp [Sp.tn]
  · have h1 : ¬ d < 0 := by omega
    have h2 : ¬ d ≤ 0 := by omega
    have h3 : 0 ≤ d := by omega
    have h4 : ¬ d = 0 := by omega
    simp [Sp.tn, h, h1, h2, h3, h4]
theorem six_two {fa na fb nb : Int} {ta tb : List UInt8} (h : (Sp.twoF [60] fa na ta fb nb tb).2.2 = 0) :
    ∃ d, ∀ k (hk : k < sixOps.length), Sp.twoF sixOps[k].data.toList fa na ta fb nb tb = (2, (sixVals d).getD k 0, 0) := by
  by_cases hg : (Sp.good fa na ta && Sp.good fb nb tb) = true
  · obtain ⟨fa', na', ta', fb', nb', tb', hc⟩ := Sp.twoF_conv hg
    rw [hc] at h
    obtain ⟨d, r0, r1, r2, r3, r4, r5⟩ := Sp.core_rel h
    refine ⟨d, fun k hk => ?_⟩
    have hk' : k < 6 := by simpa [sixOps] using hk
    rw [hc]
    match k, hk' with
    | 0, _ => exact r0
    | 1, _ => exact r1
    | 2, _ => exact r2
    | 3, _ => exact r3
    | 4, _ => exact r4
    | 5, _ => exact r5
  · exfalso
    have : Sp.twoF [60] fa na ta fb nb tb = (0, 0, 120) := if_neg hg
    rw [this] at h
    cases h
set_option maxRecDepth 100000 in
set_option maxHeartbeats 6400000 in
theorem ConstsOrder_yes (fa na fb nb : Int) (ta tb : ByteArray) (w : World) (a0 : -9223372036854775808 ≤ na) (a1 : na < 9223372036854775808) (b0 : -9223372036854775808 ≤ nb) (b1 : nb < 9223372036854775808)
    (sa : ta.size ≤ 5000) (sb : tb.size ≤ 5000) (hr : (Sp.twoF [60] fa na ta.data.toList fb nb tb.data.toList).2.2 = 0) :
    Calls Try.prog 6 #[.agg #[.int .i64 fa, .int .i64 na, .string ta], .agg #[.int .i64 fb, .int .i64 nb, .string tb]] w fun e w' => e = .returned (.bool true) ∧ Below w.heap.size w w' := by
  have hL : Sp.large [(fa, na, ta), (fb, nb, tb)] = false := by simp [Sp.large]; omega
  have s1 : ta.size < 4294967281 := by omega
  have s2 : tb.size < 4294967281 := by omega
  obtain ⟨d, hd⟩ := six_two hr
  have hso : ∀ k (hk : k < sixOps.length), sixOps[k].size ≤ maxLen := fun k hk => by
    have hk' : k < 6 := by simpa [sixOps] using hk
    match k, hk' with
    | 0, _ => exact (by decide : (⟨#[60]⟩ : ByteArray).size ≤ maxLen)
    | 1, _ => exact (by decide : (⟨#[61]⟩ : ByteArray).size ≤ maxLen)
    | 2, _ => exact (by decide : (⟨#[62]⟩ : ByteArray).size ≤ maxLen)
    | 3, _ => exact (by decide : (⟨#[60, 61]⟩ : ByteArray).size ≤ maxLen)
    | 4, _ => exact (by decide : (⟨#[35]⟩ : ByteArray).size ≤ maxLen)
    | 5, _ => exact (by decide : (⟨#[62, 61]⟩ : ByteArray).size ≤ maxLen)
  obtain ⟨v0, v1, v2, v3, v4, v5, hv, f1, f2, f3, f4, ⟨p0, p1⟩, ⟨p2, p3⟩, ⟨p4, p5⟩⟩ := six_facts d
  have TW := Lib.hid (fun (k : Nat) (hk : k < sixOps.length) => Two_at (op := sixOps[k]) (fa := fa) (fb := fb) (na := na) (nb := nb) (ta := ta) (tb := tb) (r := (2, [v0, v1, v2, v3, v4, v5].getD k 0, 0)) (by rw [hd k hk, hv]) s1 s2 (hso k hk) a0 a1 b0 b1)
  have HF := Lib.hid (show v0 + v1 + v2 = 1 ∧ v3 = v0 + v1 ∧ v4 = 1 - v1 ∧ v5 = v1 + v2 from ⟨f1, f2, f3, f4⟩)
  clear hr hd hso hv f1 f2 f3 f4
  obtain ⟨i0, hi, hz0, hz1, hz2⟩ := info_parts info_int
  go_enter Try.func6, Try.ntmps6
  go_wp2_with fail
  refine (large_any _ [(fa, na, ta), (fb, nb, tb)] _ (reads_2 ?_ (by decide) (by decide) ?_ ?_ ?_ ?_ ?_ ?_)).mono ?_
  all_goals try (simp [go_sem]; done)
  rintro e w' ⟨rfl, rfl⟩
  go_wp2_with fail
  generalize hW : World.alloc _ _ = W
  have d0 : W.cell? ⟨w.heap.size, 0, none⟩ = some (.int .i64 fa) := by rw [← hW]; simp [go_sem]
  have d1 : W.cell? ⟨w.heap.size, 1, none⟩ = some (.int .i64 na) := by rw [← hW]; simp [go_sem]
  have d2 : W.cell? ⟨w.heap.size, 2, none⟩ = some (.string ta) := by rw [← hW]; simp [go_sem]
  have e0 : W.cell? ⟨w.heap.size + 1, 0, none⟩ = some (.int .i64 fb) := by rw [← hW]; simp [go_sem]
  have e1 : W.cell? ⟨w.heap.size + 1, 1, none⟩ = some (.int .i64 nb) := by rw [← hW]; simp [go_sem]
  have e2 : W.cell? ⟨w.heap.size + 1, 2, none⟩ = some (.string tb) := by rw [← hW]; simp [go_sem]
  have hl : ∀ k (hk : k < sixOps.length), W.cell? ⟨w.heap.size + 1 + 1 + 1, k, none⟩ = some (.string sixOps[k]) := fun k hk => by
    have hk' : k < 6 := by simpa [sixOps] using hk
    match k, hk' with
    | 0, _ => rw [← hW]; simp [go_sem, sixOps]
    | 1, _ => rw [← hW]; simp [go_sem, sixOps]
    | 2, _ => rw [← hW]; simp [go_sem, sixOps]
    | 3, _ => rw [← hW]; simp [go_sem, sixOps]
    | 4, _ => rw [← hW]; simp [go_sem, sixOps]
    | 5, _ => rw [← hW]; simp [go_sem, sixOps]
  have z0 : w.heap.size < W.heap.size := by rw [← hW]; simp [go_sem]
  have z1 : w.heap.size + 1 < W.heap.size := by rw [← hW]; simp [go_sem]
  have z3 : w.heap.size + 1 + 1 + 1 < W.heap.size := by rw [← hW]; simp [go_sem]
  have hB : Below w.heap.size w W := by rw [← hW]; exact (by repeat' (first | (with_reducible exact Below.refl _ _) | (with_reducible assumption) | (with_reducible refine below_more ?_ ?_ _) | (with_reducible refine below_drewN ?_ _) | (with_reducible refine Below.drew ?_) | (with_reducible refine Below.alloc ?_ ?_ _) | (with_reducible refine Below.setCell ?_ ?_ _) | go_size | (simp [more_size]; done) | (simp [more_size]; omega)))
  clear hW
  have HL := Lib.hid hl
  have HC := Lib.hid (show W.cell? ⟨w.heap.size, 0, none⟩ = some (.int .i64 fa) ∧ W.cell? ⟨w.heap.size, 1, none⟩ = some (.int .i64 na) ∧ W.cell? ⟨w.heap.size, 2, none⟩ = some (.string ta) ∧ W.cell? ⟨w.heap.size + 1, 0, none⟩ = some (.int .i64 fb) ∧ W.cell? ⟨w.heap.size + 1, 1, none⟩ = some (.int .i64 nb) ∧ W.cell? ⟨w.heap.size + 1, 2, none⟩ = some (.string tb) from ⟨d0, d1, d2, e0, e1, e2⟩)
  clear hl d0 d1 d2 e0 e1 e2
  generalize w.heap.size + 1 + 1 + 1 = pl at *
  generalize hpb : w.heap.size + 1 = pb at *
  clear hpb
  go_loopw [6, 7] (fun s i wr => ∃ k : Nat, k ≤ 6 ∧ i = .int .i64 k ∧ wr.ownsRow W.heap.size 3 1 s k (([v0, v1, v2, v3, v4, v5].take k).map (.int .i64)) ∧ Below W.heap.size W wr) (fun _ i _ => 6 - (intOf i).toNat)
  case atStart => exact ⟨0, by omega, rfl, World.ownsRow_nil _ _ _ _, Below.refl _ _⟩
  case round =>
    obtain ⟨k, hk, rfl, hown, hBw⟩ := hrel
    have hzw := hBw.size
    have y0 : w.heap.size < wr.heap.size := by omega
    have y1 : pb < wr.heap.size := by omega
    have y2 : pl < wr.heap.size := by omega
    have hcw : ∀ b o, b < W.heap.size → wr.cell? ⟨b, o, none⟩ = W.cell? ⟨b, o, none⟩ := fun b o h => hBw.cell (p := ⟨b, o, none⟩) h
    have HCW := Lib.hid hcw
    clear hcw
    have HO := Lib.hid hown
    clear hown
    have HBW := Lib.hid hBw
    clear hBw
    by_cases hlt : k < 6
    · have hk6 : k < sixOps.length := hlt
      have hk7 : k < [v0, v1, v2, v3, v4, v5].length := hlt
      have l0 : wr.cell? ⟨pl, k, none⟩ = some (.string sixOps[k]) := by rw [HCW.out _ _ z3]; exact HL.out k hk6
      obtain ⟨d0, d1, d2, e0, e1, e2⟩ := HC.out
      rw [← HCW.out _ _ z0] at d0 d1 d2
      rw [← HCW.out _ _ z1] at e0 e1 e2
      have TK := Lib.hid (TW.out k hk6)
      have HN := Lib.hid (show ([v0, v1, v2, v3, v4, v5].take (k + 1)).map (Value.int .i64) = ([v0, v1, v2, v3, v4, v5].take k).map (Value.int .i64) ++ [.int .i64 ([v0, v1, v2, v3, v4, v5].getD k 0)] by
        rw [List.take_succ_eq_append_getElem hk7, List.map_append]; simp [List.getD_eq_getElem?_getD, List.getElem?_eq_getElem hk7])
      generalize [v0, v1, v2, v3, v4, v5].getD k 0 = x at *
      generalize sixOps[k] = op at *
      have i1 : (0 : Int) ≤ (k : Int) := by omega
      have i2 : (k : Int) < 6 := by omega
      go_wp2_with fail
      go_region_held3 (fun w' => w.heap.size < w'.heap.size ∧ pb < w'.heap.size ∧ pl < w'.heap.size ∧ w'.cell? ⟨pl, k, none⟩ = some (.string op) ∧ w'.cell? ⟨w.heap.size, 0, none⟩ = some (.int .i64 fa) ∧ w'.cell? ⟨w.heap.size, 1, none⟩ = some (.int .i64 na) ∧ w'.cell? ⟨w.heap.size, 2, none⟩ = some (.string ta) ∧ w'.cell? ⟨pb, 0, none⟩ = some (.int .i64 fb) ∧ w'.cell? ⟨pb, 1, none⟩ = some (.int .i64 nb) ∧ w'.cell? ⟨pb, 2, none⟩ = some (.string tb)) ((refine ⟨?_, ?_, ?_, ?_, ?_, ?_, ?_, ?_, ?_, ?_⟩ <;> simp [go_sem, *])) ((go_at_call 18; ((with_reducible refine (TK.out _).mono ?_); rintro e w' ⟨rfl, g, rfl⟩)))
      have hBw := HBW.out
      all_goals (go_wp2_with (at_builtin; refine wpList_append_reads rfl _ _ 40 rfl W.heap.size 3 i0 (.int .i64 0) 1 8 Try.underlying40 hi hz0 hz1 hz2 rfl (by decide) u6 k _ rfl (owns_below HO.out ?_) _ 1 [.int .i64 x] rfl (reads_lit' _ _ #[.int .i64 x] 3 1 1 (by decide) rfl ?_) ?_ ?_ ?_ ?_ ?_; (focus (exact (by repeat' (first | (with_reducible exact Below.refl _ _) | (with_reducible assumption) | (with_reducible refine below_more ?_ ?_ _) | (with_reducible refine below_drewN ?_ _) | (with_reducible refine Below.drew ?_) | (with_reducible refine Below.alloc ?_ ?_ _) | (with_reducible refine Below.setCell ?_ ?_ _) | go_size | (simp [more_size]; done) | (simp [more_size]; omega))))); (focus (simp [more_size]; done)); (focus (intro q hq; simp at hq; subst hq; rfl)); (focus (unfold maxLen; omega)); (focus omega); (focus (simp [more_size]; omega)); intro v' w1 hown' hgrow))
      all_goals (have hBn : Below W.heap.size W w1 := (by refine below_grown ?_ ?_ hgrow (owns_rows HO.out); (focus (have hBw2 := HBW.out; exact (by repeat' (first | (with_reducible exact Below.refl _ _) | (with_reducible assumption) | (with_reducible refine below_more ?_ ?_ _) | (with_reducible refine below_drewN ?_ _) | (with_reducible refine Below.drew ?_) | (with_reducible refine Below.alloc ?_ ?_ _) | (with_reducible refine Below.setCell ?_ ?_ _) | go_size | (simp [more_size]; done) | (simp [more_size]; omega))))); (focus (simp [more_size]; omega))))
      all_goals (have HX := Lib.hid hown'; have HY := Lib.hid hBn; clear hown' hBn hgrow)
      all_goals
        go_roundw
        case rel => exact ⟨k + 1, by omega, by go_num, by rw [HN.out]; exact HX.out, HY.out⟩
        case measure => simp [intOf]; omega
    · have hk6 : k = 6 := by omega
      subst hk6
      have hown := HO.out
      have hcs := fun g => hown.cells (g := g)
      rcases hown.2 with ⟨-, hx⟩ | ⟨g, cap, cur, rfl, -, hg, hnc, -, -, -⟩
      · cases hx
      · have hc : ∀ j u, ([v0, v1, v2, v3, v4, v5].map (Value.int .i64))[j]? = some u → wr.cell? ⟨g, j, none⟩ = some u := fun j u hu => by
          have := hcs g rfl j u (by simpa using hu)
          unfold Addr.add at this
          split at this
          · rename_i h; rw [h]; exact this
          · simpa using this
        have c0 := hc 0 _ rfl
        have c1 := hc 1 _ rfl
        have c2 := hc 2 _ rfl
        have c3 := hc 3 _ rfl
        have c4 := hc 4 _ rfl
        have c5 := hc 5 _ rfl
        have hgl : g < wr.heap.size := (Array.getElem?_eq_some_iff.1 hg).1
        obtain ⟨f1, rfl, rfl, rfl⟩ := HF.out
        have f1b : (v0 + v1 + v2 == 1) = true := by simpa using f1
        have hBw := HBW.out
        clear hc hcs hg hown
        go_wp2_with fail
        refine wp_region_more (by kernel_rfl) (by kernel_rfl) ?_
        repeat (first | go_big_quiet_skip | (go_big_quiet_want; go_big_quiet_op; first | go_big_quiet_on | (apply Exists.intro; refine ⟨fun _ => ?_, ?_⟩; (focus (first | (go_at_call 17; exact mo_in (wakes12_any _)))); go_big_quiet_on)))
        refine wpQuiet_nil ?_
        intro _ hw'
        obtain ⟨gq, rfl⟩ := hw'
        go_wp2
        go_ret
        exact ⟨rfl, by have hBw2 := (hB.trans (HBW.out.mono (Nat.le_of_lt z0))); exact (by repeat' (first | (with_reducible exact Below.refl _ _) | (with_reducible assumption) | (with_reducible refine below_more ?_ ?_ _) | (with_reducible refine below_drewN ?_ _) | (with_reducible refine Below.drew ?_) | (with_reducible refine Below.alloc ?_ ?_ _) | (with_reducible refine Below.setCell ?_ ?_ _) | go_size | (simp [more_size]; done) | (simp [more_size]; omega)))⟩
end Go.Proofs.Ythcpedonpiihnaa
