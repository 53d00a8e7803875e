/- The walk of the document's Same at tokens that are alike. Conditions: the tokens are alike, with their places where these are asked. -/
import Derived.Test.YtcoakhahjdnlfaaDoorTokLx
import Derived.Test.YtcoakhahjdnlfaaDoorLt2W
import Derived.BigRegion
namespace Go.Proofs.YtcoakhahjdnlfaaDoor
set_option linter.all false
open Go.RowKit
namespace Tk
/-- what is held against another token -/
def keyT (pl : Bool) (t : Tok) : Int × List UInt8 × Int × Int := (t.1, t.2.1, t.2.2.1, if pl then t.2.2.2 else 0)
end Tk
set_option maxRecDepth 100000 in
set_option maxHeartbeats 4000000 in
theorem same_any (u v : Value) (xs ys : List Tk.Tok) (pl : Bool) (w : World) (hu : Reads w u xs.length 4 (Tk.tokCells xs)) (hv : Reads w v ys.length 4 (Tk.tokCells ys)) (he : xs.map (Tk.keyT pl) = ys.map (Tk.keyT pl)) :
    Calls Tryd.prog 13 #[u, v, .bool pl] w fun e w' => e = .returned (.bool true) ∧ ∃ g, w' = more w g := by
  have hlen : ys.length = xs.length := by have := congrArg List.length he; simpa using this.symm
  rw [hlen] at hv
  rcases hu.2 with ⟨h0, a, cap, rfl, -⟩ | ⟨b, off, cap, rfl, hnc, hcm, hbl, hc⟩
  · rcases hv.2 with ⟨-, a2, cap2, rfl, -⟩ | ⟨b2, off2, cap2, rfl, -⟩
    · rw [h0] at *
      clear hu hv hlen he
      go_enter Tryd.func13, Tryd.ntmps13
      go_wp2
      go_loop [7] (fun i => i = .int .i64 0) (fun i => 0)
      case atStart => rfl
      case round =>
        subst hrel
        go_wp2
        go_ret
        exact ⟨rfl, more_refl _⟩
    · rw [h0] at *
      clear hu hv hlen he
      go_enter Tryd.func13, Tryd.ntmps13
      go_wp2
      go_loop [7] (fun i => i = .int .i64 0) (fun i => 0)
      case atStart => rfl
      case round =>
        subst hrel
        go_wp2
        go_ret
        exact ⟨rfl, more_refl _⟩
  · rcases hv.2 with ⟨h0, a2, cap2, rfl, -⟩ | ⟨b2, off2, cap2, rfl, hnc2, hcm2, hbl2, hc2⟩
    · rw [h0] at *
      clear hu hv hlen he hc
      go_enter Tryd.func13, Tryd.ntmps13
      go_wp2
      go_loop [7] (fun i => i = .int .i64 0) (fun i => 0)
      case atStart => rfl
      case round =>
        subst hrel
        go_wp2
        go_ret
        exact ⟨rfl, more_refl _⟩
    · have hl1 : cap ≤ 9223372036854775807 := by unfold maxLen at hcm; omega
      have hl2 : cap2 ≤ 9223372036854775807 := by unfold maxLen at hcm2; omega
      have HC : ∀ k, (h : k < xs.length) → ∃ kd tw tn ta ta2, (pl = true → ta = ta2) ∧
          (w.cell? ⟨b, off + k * 4, none⟩ = some (.int .i64 kd) ∧ w.cell? ⟨b, off + k * 4 + 1, none⟩ = some (.string tw) ∧ w.cell? ⟨b, off + k * 4 + 2, none⟩ = some (.int .i64 tn) ∧ w.cell? ⟨b, off + k * 4 + 3, none⟩ = some (.int .i64 ta)) ∧
          (w.cell? ⟨b2, off2 + k * 4, none⟩ = some (.int .i64 kd) ∧ w.cell? ⟨b2, off2 + k * 4 + 1, none⟩ = some (.string tw) ∧ w.cell? ⟨b2, off2 + k * 4 + 2, none⟩ = some (.int .i64 tn) ∧ w.cell? ⟨b2, off2 + k * 4 + 3, none⟩ = some (.int .i64 ta2)) := by
        intro k h
        have hk2 : k < ys.length := by omega
        have h1 := Tk.tokCells_at xs k h
        have h2 := Tk.tokCells_at ys k hk2
        have h3 : Tk.keyT pl xs[k] = Tk.keyT pl ys[k] := by
          have := congrArg (fun l => l[k]?) he
          simp only [List.getElem?_map, List.getElem?_eq_getElem h, List.getElem?_eq_getElem hk2, Option.map_some, Option.some.injEq] at this
          exact this
        simp only [Tk.keyT, Prod.mk.injEq] at h3
        refine ⟨xs[k].1, ⟨xs[k].2.1.toArray⟩, xs[k].2.2.1, xs[k].2.2.2, ys[k].2.2.2, fun hp => by simpa [hp] using h3.2.2.2, ⟨?_, ?_, ?_, ?_⟩, ?_, ?_, ?_, ?_⟩
        · exact hc _ _ h1.1
        · have := hc _ _ h1.2.1; rwa [← Nat.add_assoc] at this
        · have := hc _ _ h1.2.2.1; rwa [← Nat.add_assoc] at this
        · have := hc _ _ h1.2.2.2; rwa [← Nat.add_assoc] at this
        · rw [h3.1]; exact hc2 _ _ h2.1
        · rw [h3.2.1]; have := hc2 _ _ h2.2.1; rwa [← Nat.add_assoc] at this
        · rw [h3.2.2.1]; have := hc2 _ _ h2.2.2.1; rwa [← Nat.add_assoc] at this
        · have := hc2 _ _ h2.2.2.2; rwa [← Nat.add_assoc] at this
      replace HC := Lib.hid HC
      clear hu hv hc hc2 he hlen
      generalize xs.length = n at *
      go_enter Tryd.func13, Tryd.ntmps13
      go_wp2
      go_loopw [7] (fun i wr => ∃ k : Nat, k ≤ n ∧ i = .int .i64 k ∧ ∃ g, wr = more w g) (fun i _ => n - (intOf i).toNat)
      case atStart => exact ⟨0, by omega, rfl, more_refl _⟩
      case round =>
        obtain ⟨k, hk, rfl, g, rfl⟩ := hrel
        by_cases hlt : k < n
        · obtain ⟨kd, tw, tn, ta, ta2, hta, ⟨x0, x1, x2, x3⟩, y0, y1, y2, y3⟩ := HC.out k hlt
          have i0 : (0 : Int) ≤ (k : Int) := by omega
          have i1 : (k : Int) < (n : Int) := by omega
          cases pl
          · go_wp2_with fail
            go_region
            all_goals
              go_wp2
              refine ⟨⟨k + 1, by omega, by simp, more_of_below (by repeat' (first | (with_reducible exact Below.refl _ _) | (with_reducible assumption) | (with_reducible refine below_more ?_ ?_ _) | (with_reducible refine below_drewN ?_ _) | (with_reducible refine Below.drew ?_) | (with_reducible refine Below.alloc ?_ ?_ _) | (with_reducible refine Below.setCell ?_ ?_ _) | go_size | (simp [more_size]; done) | (simp [more_size]; omega)))⟩, by simp [intOf]; omega⟩
          · have hte := hta rfl
            subst hte
            clear hta
            go_wp2_with fail
            go_region
            all_goals
              go_wp2
              refine ⟨⟨k + 1, by omega, by simp, more_of_below (by repeat' (first | (with_reducible exact Below.refl _ _) | (with_reducible assumption) | (with_reducible refine below_more ?_ ?_ _) | (with_reducible refine below_drewN ?_ _) | (with_reducible refine Below.drew ?_) | (with_reducible refine Below.alloc ?_ ?_ _) | (with_reducible refine Below.setCell ?_ ?_ _) | go_size | (simp [more_size]; done) | (simp [more_size]; omega)))⟩, by simp [intOf]; omega⟩
        · have hke : k = n := by omega
          subst hke
          go_wp2
          go_ret
          exact ⟨rfl, g, rfl⟩
end Go.Proofs.YtcoakhahjdnlfaaDoor
