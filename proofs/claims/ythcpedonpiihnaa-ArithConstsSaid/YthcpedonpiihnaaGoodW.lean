/- The walks that tell whether a value is a constant. Conditions: texts are shorter than a text may be. -/
import Derived.Test.YthcpedonpiihnaaConY
namespace Go.Proofs.Ythcpedonpiihnaa
set_option linter.unusedSimpArgs false
set_option linter.unusedVariables false
open Go.RowKit
theorem good_text_iff (s : ByteArray) : Sp.goodText s.data.toList = true ↔ s.size ≤ 64 ∧ ∀ j, (hj : j < s.size) → ¬ (s[j].toNat < 32 ∨ s[j].toNat = 34) := by
  unfold Sp.goodText
  rw [Bool.and_eq_true, List.all_eq_true, decide_eq_true_iff]
  refine and_congr (by simp) ⟨fun h j hj => ?_, fun h c hc => ?_⟩
  · have := h s[j] (by simp [ByteArray.getElem_eq_getElem_data])
    simp at this
    rintro (h1 | h1)
    · omega
    · exact this.2 (UInt8.toNat_inj.1 h1)
  · obtain ⟨j, hj, rfl⟩ := List.getElem_of_mem hc
    have hj' : j < s.size := by simpa using hj
    have := h j hj'
    have he : s.data.toList[j] = s[j] := by simp [ByteArray.getElem_eq_getElem_data]
    rw [he]
    simp
    exact ⟨by omega, fun e => this (.inr (by rw [e]; rfl))⟩
set_option maxRecDepth 100000 in
theorem String_any (s : ByteArray) (w : World) (hs : s.size < 4294967281) :
    Calls Try.prog 84 #[.string s] w fun e w' => e = .returned (.bool (Sp.goodText s.data.toList)) ∧ w' = w := by
  by_cases h : s.size ≤ 64
  · have hn : ¬ ((64 : Int) < s.size) := by omega
    go_enter Try.func84, Try.ntmps84
    go_wp2_with fail
    go_loopg [3] s.size (fun k v wr => ∃ i : Nat, k = s.size - i ∧ i ≤ s.size ∧ v = .int .i64 i ∧ wr = w ∧ ∀ j, (hj : j < s.size) → j < i → ¬ (s[j].toNat < 32 ∨ s[j].toNat = 34))
    case atStart => exact ⟨0, rfl, by omega, rfl, rfl, fun j _ hj => absurd hj (by omega)⟩
    case round =>
      obtain ⟨i, hk, hi, rfl, rfl, hall⟩ := hrel
      have HA := Lib.hid hall; have HK := Lib.hid hk; clear hall hk
      rcases Nat.lt_or_ge i s.size with hl | hl
      · by_cases hb : s[i].toNat < 32
        · have HG : Sp.goodText s.data.toList = false := by rw [Bool.eq_false_iff]; intro hg; exact ((good_text_iff s).1 hg).2 i hl (.inl hb)
          go_wp2_with fail
          go_ret
          exact ⟨by first | rfl | (rw [HG]; rfl), rfl⟩
        · by_cases hb2 : s[i].toNat = 34
          · have hbi : ¬ ((s[i].toNat : Int) < 32) := by omega
            have hbj : ((s[i].toNat : Int) == 34) = true := by simp; omega
            have HG : Sp.goodText s.data.toList = false := by rw [Bool.eq_false_iff]; intro hg; exact ((good_text_iff s).1 hg).2 i hl (.inr hb2)
            go_wp2_with fail
            go_ret
            exact ⟨by first | rfl | (rw [HG]; rfl), rfl⟩
          · have hbi : ¬ ((s[i].toNat : Int) < 32) := by omega
            have hbj : ((s[i].toNat : Int) == 34) = false := by simp; omega
            go_wp2_with fail
            go_roundg (gk - 1)
            case measure => (have := HK.out; omega)
            case rel => exact ⟨i + 1, by have := HK.out; omega, by omega, rfl, rfl, fun j hj hji => by
              by_cases e : j = i
              · subst e; rintro (h | h)
                · exact hb h
                · exact hb2 h
              · exact HA.out j hj (by omega)⟩
      · have HG := (good_text_iff s).2 ⟨h, fun j hj => HA.out j hj (by omega)⟩
        go_wp2_with fail
        go_ret
        exact ⟨by first | rfl | (rw [HG]; rfl), rfl⟩
  · have HG : Sp.goodText s.data.toList = false := by rw [Bool.eq_false_iff]; intro hg; exact h ((good_text_iff s).1 hg).1
    go_enter Try.func84, Try.ntmps84
    go_wp2
    go_ret
    exact ⟨by first | rfl | (rw [HG]; rfl), rfl⟩
set_option maxRecDepth 100000 in
set_option maxHeartbeats 1600000 in
theorem Good_any (f n : Int) (s : ByteArray) (w : World) (hs : s.size < 4294967281) (h0 : -9223372036854775808 ≤ n) (h1 : n < 9223372036854775808) :
    Calls Try.prog 33 #[.agg #[.int .i64 f, .int .i64 n, .string s]] w fun e w' => e = .returned (.bool (Sp.good f n s.data.toList)) ∧ ∃ g, w' = more w g := by
  by_cases hf : f = 6
  · subst hf
    by_cases hc : n = 0 ∧ s.size ≤ 64
    · obtain ⟨rfl, h⟩ := hc
      have hn : ¬ ((64 : Int) < s.size) := by omega
      have hsp : Sp.good 6 0 s.data.toList = Sp.goodText s.data.toList := by simp [Sp.good]
      rw [hsp]
      clear hsp
      go_enter Try.func33, Try.ntmps33
      go_wp2_with fail
      generalize hW0 : World.alloc w _ = W0
      have hp : W0.cell? ⟨w.heap.size, 2, none⟩ = some (.string s) := by rw [← hW0]; simp [go_sem]
      have hBW : ∃ g, W0 = more w g := by rw [← hW0]; exact more_of_below (by repeat' (first | (with_reducible exact Below.refl _ _) | (with_reducible assumption) | (with_reducible refine below_more ?_ ?_ _) | (with_reducible refine below_drewN ?_ _) | (with_reducible refine Below.drew ?_) | (with_reducible refine Below.alloc ?_ ?_ _) | (with_reducible refine Below.setCell ?_ ?_ _) | go_size))
      clear hW0
      have HBW := Lib.hid hBW; clear hBW
      go_loopg [19] s.size (fun k v wr => ∃ i : Nat, k = s.size - i ∧ i ≤ s.size ∧ v = .int .i64 i ∧ wr = W0 ∧ ∀ j, (hj : j < s.size) → j < i → ¬ (s[j].toNat < 32 ∨ s[j].toNat = 34))
      case atStart => exact ⟨0, rfl, by omega, rfl, rfl, fun j _ hj => absurd hj (by omega)⟩
      case round =>
        obtain ⟨i, hk, hi, rfl, rfl, hall⟩ := hrel
        have HA := Lib.hid hall; have HK := Lib.hid hk; clear hall hk
        rcases Nat.lt_or_ge i s.size with hl | hl
        · by_cases hb : s[i].toNat < 32
          · have HG : Sp.goodText s.data.toList = false := by rw [Bool.eq_false_iff]; intro hg; exact ((good_text_iff s).1 hg).2 i hl (.inl hb)
            go_wp2_with fail
            go_ret
            exact ⟨by first | rfl | (rw [HG]; rfl), HBW.out⟩
          · by_cases hb2 : s[i].toNat = 34
            · have hbi : ¬ ((s[i].toNat : Int) < 32) := by omega
              have hbj : ((s[i].toNat : Int) == 34) = true := by simp; omega
              have HG : Sp.goodText s.data.toList = false := by rw [Bool.eq_false_iff]; intro hg; exact ((good_text_iff s).1 hg).2 i hl (.inr hb2)
              go_wp2_with fail
              go_ret
              exact ⟨by first | rfl | (rw [HG]; rfl), HBW.out⟩
            · have hbi : ¬ ((s[i].toNat : Int) < 32) := by omega
              have hbj : ((s[i].toNat : Int) == 34) = false := by simp; omega
              go_wp2_with fail
              go_roundg (gk - 1)
              case measure => (have := HK.out; omega)
              case rel => exact ⟨i + 1, by have := HK.out; omega, by omega, rfl, rfl, fun j hj hji => by
                by_cases e : j = i
                · subst e; rintro (h | h)
                  · exact hb h
                  · exact hb2 h
                · exact HA.out j hj (by omega)⟩
        · have HG := (good_text_iff s).2 ⟨h, fun j hj => HA.out j hj (by omega)⟩
          go_wp2_with fail
          go_ret
          exact ⟨by first | rfl | (rw [HG]; rfl), HBW.out⟩
    · by_cases hn : n = 0
      · subst hn
        have h : 64 < s.size := by omega
        have h' : (64 : Int) < s.size := by omega
        have HG : Sp.good 6 0 s.data.toList = false := by
          rw [Bool.eq_false_iff]; intro hg
          simp [Sp.good] at hg
          exact absurd ((good_text_iff s).1 hg).1 (by omega)
        clear hc
        go_enter Try.func33, Try.ntmps33
        go_wp2
        go_ret
        exact ⟨by first | rfl | (rw [HG]; rfl), more_of_below (by repeat' (first | (with_reducible exact Below.refl _ _) | (with_reducible assumption) | (with_reducible refine below_more ?_ ?_ _) | (with_reducible refine below_drewN ?_ _) | (with_reducible refine Below.drew ?_) | (with_reducible refine Below.alloc ?_ ?_ _) | (with_reducible refine Below.setCell ?_ ?_ _) | go_size))⟩
      · have HG : Sp.good 6 n s.data.toList = false := by simp [Sp.good, hn]
        have hn' : (n == 0) = false := by simpa using hn
        clear hc
        go_enter Try.func33, Try.ntmps33
        go_wp2
        go_ret
        exact ⟨by first | rfl | (rw [HG]; rfl), more_of_below (by repeat' (first | (with_reducible exact Below.refl _ _) | (with_reducible assumption) | (with_reducible refine below_more ?_ ?_ _) | (with_reducible refine below_drewN ?_ _) | (with_reducible refine Below.drew ?_) | (with_reducible refine Below.alloc ?_ ?_ _) | (with_reducible refine Below.setCell ?_ ?_ _) | go_size))⟩
  · have hf' : (f == 6) = false := by simpa using hf
    by_cases ht : s = ⟨#[]⟩
    · subst ht
      by_cases h1 : f = 1
      · subst h1
        go_enter Try.func33, Try.ntmps33
        go_wp2_with (first | (go_at_call 82; refine (fits32_any _ _).mono ?_; rintro e w' ⟨rfl, rfl⟩))
        go_ret
        exact ⟨rfl, more_of_below (by repeat' (first | (with_reducible exact Below.refl _ _) | (with_reducible assumption) | (with_reducible refine below_more ?_ ?_ _) | (with_reducible refine below_drewN ?_ _) | (with_reducible refine Below.drew ?_) | (with_reducible refine Below.alloc ?_ ?_ _) | (with_reducible refine Below.setCell ?_ ?_ _) | go_size))⟩
      · by_cases h2 : f = 2
        · subst h2
          have HG : Sp.good 2 n [] = (n == 0 || n == 1) := by simp [Sp.good]
          rw [HG]
          by_cases hn : n = 0
          · subst hn
            go_enter Try.func33, Try.ntmps33
            go_wp2_with fail
            go_ret
            exact ⟨rfl, more_of_below (by repeat' (first | (with_reducible exact Below.refl _ _) | (with_reducible assumption) | (with_reducible refine below_more ?_ ?_ _) | (with_reducible refine below_drewN ?_ _) | (with_reducible refine Below.drew ?_) | (with_reducible refine Below.alloc ?_ ?_ _) | (with_reducible refine Below.setCell ?_ ?_ _) | go_size))⟩
          · have hn' : (n == 0) = false := by simpa using hn
            go_enter Try.func33, Try.ntmps33
            go_wp2_with fail
            go_ret
            exact ⟨by rw [hn']; rfl, more_of_below (by repeat' (first | (with_reducible exact Below.refl _ _) | (with_reducible assumption) | (with_reducible refine below_more ?_ ?_ _) | (with_reducible refine below_drewN ?_ _) | (with_reducible refine Below.drew ?_) | (with_reducible refine Below.alloc ?_ ?_ _) | (with_reducible refine Below.setCell ?_ ?_ _) | go_size))⟩
        · by_cases h3 : f = 3
          · subst h3
            have HG : Sp.good 3 n [] = (n == n % 256) := by simp [Sp.good]; rw [Bool.eq_iff_iff]; simp; omega
            go_enter Try.func33, Try.ntmps33
            go_wp2_with fail
            go_ret
            exact ⟨by rw [HG]; rfl, more_of_below (by repeat' (first | (with_reducible exact Below.refl _ _) | (with_reducible assumption) | (with_reducible refine below_more ?_ ?_ _) | (with_reducible refine below_drewN ?_ _) | (with_reducible refine Below.drew ?_) | (with_reducible refine Below.alloc ?_ ?_ _) | (with_reducible refine Below.setCell ?_ ?_ _) | go_size))⟩
          · by_cases h4 : f = 4
            · subst h4
              have HG : Sp.good 4 n [] = (n == n % 4294967296) := by simp [Sp.good]; rw [Bool.eq_iff_iff]; simp; omega
              go_enter Try.func33, Try.ntmps33
              go_wp2_with fail
              go_ret
              exact ⟨by rw [HG]; rfl, more_of_below (by repeat' (first | (with_reducible exact Below.refl _ _) | (with_reducible assumption) | (with_reducible refine below_more ?_ ?_ _) | (with_reducible refine below_drewN ?_ _) | (with_reducible refine Below.drew ?_) | (with_reducible refine Below.alloc ?_ ?_ _) | (with_reducible refine Below.setCell ?_ ?_ _) | go_size))⟩
            · have HG : Sp.good f n [] = (f == 5 && n == 0) := by simp [Sp.good, hf, h1, h2, h3, h4]
              have h1' : (f == 1) = false := by simpa using h1
              have h2' : (f == 2) = false := by simpa using h2
              have h3' : (f == 3) = false := by simpa using h3
              have h4' : (f == 4) = false := by simpa using h4
              by_cases h5 : f = 5
              · subst h5
                go_enter Try.func33, Try.ntmps33
                go_wp2_with fail
                go_ret
                exact ⟨by rw [HG]; rfl, more_of_below (by repeat' (first | (with_reducible exact Below.refl _ _) | (with_reducible assumption) | (with_reducible refine below_more ?_ ?_ _) | (with_reducible refine below_drewN ?_ _) | (with_reducible refine Below.drew ?_) | (with_reducible refine Below.alloc ?_ ?_ _) | (with_reducible refine Below.setCell ?_ ?_ _) | go_size))⟩
              · have h5' : (f == 5) = false := by simpa using h5
                go_enter Try.func33, Try.ntmps33
                go_wp2_with fail
                go_ret
                exact ⟨by rw [HG, h5']; rfl, more_of_below (by repeat' (first | (with_reducible exact Below.refl _ _) | (with_reducible assumption) | (with_reducible refine below_more ?_ ?_ _) | (with_reducible refine below_drewN ?_ _) | (with_reducible refine Below.drew ?_) | (with_reducible refine Below.alloc ?_ ?_ _) | (with_reducible refine Below.setCell ?_ ?_ _) | go_size))⟩
    · have HG : Sp.good f n s.data.toList = false := by
        have : s.data.toList ≠ [] := fun e => ht (bytes_ext e)
        simp only [Sp.good, if_neg hf, if_pos this]
      have ht' : (s.toList == []) = false := by have h := str_ne ht; rwa [show (⟨#[]⟩ : ByteArray).toList = [] from by decide +kernel] at h
      go_enter Try.func33, Try.ntmps33
      go_wp2
      go_ret
      exact ⟨by rw [HG]; rfl, more_of_below (by repeat' (first | (with_reducible exact Below.refl _ _) | (with_reducible assumption) | (with_reducible refine below_more ?_ ?_ _) | (with_reducible refine below_drewN ?_ _) | (with_reducible refine Below.drew ?_) | (with_reducible refine Below.alloc ?_ ?_ _) | (with_reducible refine Below.setCell ?_ ?_ _) | go_size))⟩
set_option maxRecDepth 100000 in
set_option maxHeartbeats 1600000 in
theorem rGood_any (f n : Int) (s : ByteArray) (w : World) (hs : s.size < 4294967281) (h0 : -9223372036854775808 ≤ n) (h1 : n < 9223372036854775808) :
    Calls Try.prog 34 #[.agg #[.int .i64 f, .int .i64 n, .string s]] w fun e w' => e = .returned (.bool (Sp.good f n s.data.toList)) ∧ ∃ g, w' = more w g := by
  by_cases hf : f = 6
  · subst hf
    by_cases hn : n = 0
    · subst hn
      have HG : Sp.good 6 0 s.data.toList = Sp.goodText s.data.toList := by simp [Sp.good]
      rw [HG]
      cases hg : Sp.goodText s.data.toList
      all_goals
        go_enter Try.func34, Try.ntmps34
        go_wp2_with (first | (go_at_call 84; refine (String_any _ _ (by assumption)).mono ?_; rintro e w' ⟨rfl, rfl⟩))
        go_ret
        exact ⟨by first | rfl | (rw [hg]; rfl), more_of_below (by repeat' (first | (with_reducible exact Below.refl _ _) | (with_reducible assumption) | (with_reducible refine below_more ?_ ?_ _) | (with_reducible refine below_drewN ?_ _) | (with_reducible refine Below.drew ?_) | (with_reducible refine Below.alloc ?_ ?_ _) | (with_reducible refine Below.setCell ?_ ?_ _) | go_size))⟩
    · have HG : Sp.good 6 n s.data.toList = false := by simp [Sp.good, hn]
      have hn' : (n == 0) = false := by simpa using hn
      go_enter Try.func34, Try.ntmps34
      go_wp2
      go_ret
      exact ⟨by first | rfl | (rw [HG]; rfl), more_of_below (by repeat' (first | (with_reducible exact Below.refl _ _) | (with_reducible assumption) | (with_reducible refine below_more ?_ ?_ _) | (with_reducible refine below_drewN ?_ _) | (with_reducible refine Below.drew ?_) | (with_reducible refine Below.alloc ?_ ?_ _) | (with_reducible refine Below.setCell ?_ ?_ _) | go_size))⟩
  · have hf' : (f == 6) = false := by simpa using hf
    by_cases ht : s = ⟨#[]⟩
    · subst ht
      by_cases h1 : f = 1
      · subst h1
        go_enter Try.func34, Try.ntmps34
        go_wp2_with (first | (go_at_call 83; refine (rfits32_any _ _).mono ?_; rintro e w' ⟨rfl, rfl⟩))
        go_ret
        exact ⟨rfl, more_of_below (by repeat' (first | (with_reducible exact Below.refl _ _) | (with_reducible assumption) | (with_reducible refine below_more ?_ ?_ _) | (with_reducible refine below_drewN ?_ _) | (with_reducible refine Below.drew ?_) | (with_reducible refine Below.alloc ?_ ?_ _) | (with_reducible refine Below.setCell ?_ ?_ _) | go_size))⟩
      · by_cases h2 : f = 2
        · subst h2
          have HG : Sp.good 2 n [] = (n == 0 || n == 1) := by simp [Sp.good]
          rw [HG]
          by_cases hn : n = 0
          · subst hn
            go_enter Try.func34, Try.ntmps34
            go_wp2_with fail
            go_ret
            exact ⟨rfl, more_of_below (by repeat' (first | (with_reducible exact Below.refl _ _) | (with_reducible assumption) | (with_reducible refine below_more ?_ ?_ _) | (with_reducible refine below_drewN ?_ _) | (with_reducible refine Below.drew ?_) | (with_reducible refine Below.alloc ?_ ?_ _) | (with_reducible refine Below.setCell ?_ ?_ _) | go_size))⟩
          · have hn' : (n == 0) = false := by simpa using hn
            go_enter Try.func34, Try.ntmps34
            go_wp2_with fail
            go_ret
            exact ⟨by rw [hn']; rfl, more_of_below (by repeat' (first | (with_reducible exact Below.refl _ _) | (with_reducible assumption) | (with_reducible refine below_more ?_ ?_ _) | (with_reducible refine below_drewN ?_ _) | (with_reducible refine Below.drew ?_) | (with_reducible refine Below.alloc ?_ ?_ _) | (with_reducible refine Below.setCell ?_ ?_ _) | go_size))⟩
        · by_cases h3 : f = 3
          · subst h3
            have HG : Sp.good 3 n [] = (decide (0 ≤ n) && decide (n < 256)) := by simp [Sp.good]
            rw [HG]
            by_cases hn : 0 ≤ n
            all_goals
              go_enter Try.func34, Try.ntmps34
              go_wp2_with fail
              go_ret
              exact ⟨by simp [hn] <;> omega, more_of_below (by repeat' (first | (with_reducible exact Below.refl _ _) | (with_reducible assumption) | (with_reducible refine below_more ?_ ?_ _) | (with_reducible refine below_drewN ?_ _) | (with_reducible refine Below.drew ?_) | (with_reducible refine Below.alloc ?_ ?_ _) | (with_reducible refine Below.setCell ?_ ?_ _) | go_size))⟩
          · by_cases h4 : f = 4
            · subst h4
              have HG : Sp.good 4 n [] = (decide (0 ≤ n) && decide (n < 4294967296)) := by simp [Sp.good]
              rw [HG]
              by_cases hn : 0 ≤ n
              all_goals
                go_enter Try.func34, Try.ntmps34
                go_wp2_with fail
                go_ret
                exact ⟨by simp [hn] <;> omega, more_of_below (by repeat' (first | (with_reducible exact Below.refl _ _) | (with_reducible assumption) | (with_reducible refine below_more ?_ ?_ _) | (with_reducible refine below_drewN ?_ _) | (with_reducible refine Below.drew ?_) | (with_reducible refine Below.alloc ?_ ?_ _) | (with_reducible refine Below.setCell ?_ ?_ _) | go_size))⟩
            · have HG : Sp.good f n [] = (f == 5 && n == 0) := by simp [Sp.good, hf, h1, h2, h3, h4]
              have h1' : (f == 1) = false := by simpa using h1
              have h2' : (f == 2) = false := by simpa using h2
              have h3' : (f == 3) = false := by simpa using h3
              have h4' : (f == 4) = false := by simpa using h4
              by_cases h5 : f = 5
              · subst h5
                go_enter Try.func34, Try.ntmps34
                go_wp2_with fail
                go_ret
                exact ⟨by rw [HG]; rfl, more_of_below (by repeat' (first | (with_reducible exact Below.refl _ _) | (with_reducible assumption) | (with_reducible refine below_more ?_ ?_ _) | (with_reducible refine below_drewN ?_ _) | (with_reducible refine Below.drew ?_) | (with_reducible refine Below.alloc ?_ ?_ _) | (with_reducible refine Below.setCell ?_ ?_ _) | go_size))⟩
              · have h5' : (f == 5) = false := by simpa using h5
                go_enter Try.func34, Try.ntmps34
                go_wp2_with fail
                go_ret
                exact ⟨by rw [HG, h5']; rfl, more_of_below (by repeat' (first | (with_reducible exact Below.refl _ _) | (with_reducible assumption) | (with_reducible refine below_more ?_ ?_ _) | (with_reducible refine below_drewN ?_ _) | (with_reducible refine Below.drew ?_) | (with_reducible refine Below.alloc ?_ ?_ _) | (with_reducible refine Below.setCell ?_ ?_ _) | go_size))⟩
    · have HG : Sp.good f n s.data.toList = false := by
        have : s.data.toList ≠ [] := fun e => ht (bytes_ext e)
        simp only [Sp.good, if_neg hf, if_pos this]
      have ht' : (s.toList == []) = false := by have h := str_ne ht; rwa [show (⟨#[]⟩ : ByteArray).toList = [] from by decide +kernel] at h
      go_enter Try.func34, Try.ntmps34
      go_wp2
      go_ret
      exact ⟨by rw [HG]; rfl, more_of_below (by repeat' (first | (with_reducible exact Below.refl _ _) | (with_reducible assumption) | (with_reducible refine below_more ?_ ?_ _) | (with_reducible refine below_drewN ?_ _) | (with_reducible refine Below.drew ?_) | (with_reducible refine Below.alloc ?_ ?_ _) | (with_reducible refine Below.setCell ?_ ?_ _) | go_size))⟩
end Go.Proofs.Ythcpedonpiihnaa
