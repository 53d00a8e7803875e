/- The walks of the document's Word, Name, String and Good. Conditions: the text's size is bounded. -/
import Derived.Test.YtcoakhahjdnlfaaDoorGdA
import Derived.Test.YtcoakhahjdnlfaaDoorTokRa
namespace Go.Proofs.YtcoakhahjdnlfaaDoor
set_option linter.all false
open Go.RowKit
namespace Tk
/-- are all bytes from k on letters or digits? -/
def tailIn (s : ByteArray) (k : Nat) : Bool := (s.data.toList.drop k).all inside
theorem tailIn_step (s : ByteArray) {k : Nat} (h : k < s.size) : tailIn s k = (inside s[k] && tailIn s (k + 1)) := by
  unfold tailIn; rw [drop_at s k h, List.all_cons]
theorem tailIn_end (s : ByteArray) {k : Nat} (h : ¬ k < s.size) : tailIn s k = true := by
  unfold tailIn; rw [List.drop_eq_nil_of_le (by simp; omega)]; rfl
def tailPl (s : ByteArray) (k : Nat) : Bool := (s.data.toList.drop k).all plain
theorem tailPl_step (s : ByteArray) {k : Nat} (h : k < s.size) : tailPl s k = (plain s[k] && tailPl s (k + 1)) := by
  unfold tailPl; rw [drop_at s k h, List.all_cons]
theorem tailPl_end (s : ByteArray) {k : Nat} (h : ¬ k < s.size) : tailPl s k = true := by
  unfold tailPl; rw [List.drop_eq_nil_of_le (by simp; omega)]; rfl
theorem word_at (s : ByteArray) (h1 : 0 < s.size) (h24 : s.size ≤ 24) : word s.data.toList = (letter s[0] && tailIn s 1) := by
  have h0 := drop_at s 0 h1
  rw [List.drop_zero] at h0
  unfold word tailIn
  have hl : s.data.toList.length = s.size := by simp
  rw [hl, decide_eq_true h24]
  rw [h0]
  simp only [Bool.true_and, List.all_cons, List.drop_succ_cons, List.drop_zero]
  cases hc : letter s[0] <;> simp [inside, hc]
theorem word_long (s : ByteArray) (h : s.size = 0 ∨ 24 < s.size) : word s.data.toList = false := by
  have hl : s.data.toList.length = s.size := by simp
  unfold word
  rw [hl]
  rcases h with h | h
  · have : s.data.toList = [] := List.length_eq_zero_iff.1 (by rw [hl]; exact h)
    rw [this]; simp
  · rw [decide_eq_false (by omega)]; rfl
end Tk
set_option maxRecDepth 100000 in
set_option maxHeartbeats 3200000 in
theorem rWord_any (s : ByteArray) (w : World) (hs : s.size < 4294967281) :
    Calls Tryd.prog 92 #[.string s] w fun e w' => e = .returned (.bool (Tk.word s.data.toList)) ∧ ∃ g, w' = more w g := by
  by_cases h0 : s.size = 0
  · rw [Tk.word_long s (.inl h0)]
    go_enter Tryd.func92, Tryd.ntmps92
    go_wp2
    go_ret
    exact ⟨rfl, more_refl _⟩
  have hpos : 0 < s.size := by omega
  have hp1 : (1 : Int) ≤ (s.size : Int) := by omega
  by_cases h24 : 24 < s.size
  · rw [Tk.word_long s (.inr h24)]
    have h24' : (24 : Int) < (s.size : Int) := by omega
    clear h0
    go_enter Tryd.func92, Tryd.ntmps92
    go_wp2
    go_ret
    exact ⟨rfl, more_refl _⟩
  have h24' : (s.size : Int) ≤ 24 := by omega
  rw [Tk.word_at s hpos (by omega)]
  have h256 : s[0].toNat < 256 := UInt8.toNat_lt _
  cases hl : Tk.letter s[0]
  · have HL := Lib.hid (rletter_at hl)
    clear h0 h24 hl
    rw [Bool.false_and]
    go_enter Tryd.func92, Tryd.ntmps92
    go_wp2_with (go_at_call 47; (with_reducible refine (HL.out _).mono ?_); rintro e w2 ⟨rfl, rfl⟩)
    go_ret
    exact ⟨rfl, more_refl _⟩
  · have HL := Lib.hid (rletter_at hl)
    clear h0 h24 hl
    rw [Bool.true_and]
    go_enter Tryd.func92, Tryd.ntmps92
    go_wp2_with (go_at_call 47; (with_reducible refine (HL.out _).mono ?_); rintro e w2 ⟨rfl, rfl⟩)
    go_loop [3] (fun i => ∃ (k : Nat), i = .int .i64 k ∧ k ≤ s.size ∧ Hid (Tk.tailIn s k = Tk.tailIn s 1)) (fun i => s.size - (intOf i).toNat)
    case atStart => exact ⟨1, rfl, by omega, Lib.hid rfl⟩
    case round =>
      obtain ⟨k, rfl, hk, H⟩ := hrel
      by_cases hlt : k < s.size
      · have hst := Tk.tailIn_step s hlt
        generalize hc : s[k] = c at *
        have hb : c.toNat < 256 := c.toNat_lt
        cases h1 : Tk.letter c
        · have HL1 := Lib.hid (rletter_at h1)
          cases h2 : Tk.digit c
          · have HD := Lib.hid (rdigit_at h2)
            have HV := Lib.hid (show Tk.tailIn s 1 = false by rw [← H.out, hst]; simp [Tk.inside, h1, h2])
            clear hst H h1 h2 HL
            go_wp2_with (first | (go_at_call 47; (with_reducible refine (HL1.out _).mono ?_); rintro e w2 ⟨rfl, rfl⟩) | (go_at_call 48; (with_reducible refine (HD.out _).mono ?_); rintro e w2 ⟨rfl, rfl⟩))
            go_ret
            exact ⟨by rw [HV.out]; rfl, more_refl _⟩
          · have HD := Lib.hid (rdigit_at h2)
            have HV := Lib.hid (show Tk.tailIn s (k + 1) = Tk.tailIn s 1 by rw [← H.out, hst]; simp [Tk.inside, h1, h2])
            clear hst H h1 h2 HL
            go_wp2_with (first | (go_at_call 47; (with_reducible refine (HL1.out _).mono ?_); rintro e w2 ⟨rfl, rfl⟩) | (go_at_call 48; (with_reducible refine (HD.out _).mono ?_); rintro e w2 ⟨rfl, rfl⟩))
            refine ⟨⟨k + 1, by go_num, by omega, HV⟩, by simp [intOf]; omega⟩
        · have HL1 := Lib.hid (rletter_at h1)
          have HV := Lib.hid (show Tk.tailIn s (k + 1) = Tk.tailIn s 1 by rw [← H.out, hst]; simp [Tk.inside, h1])
          clear hst H h1 HL
          go_wp2_with (first | (go_at_call 47; (with_reducible refine (HL1.out _).mono ?_); rintro e w2 ⟨rfl, rfl⟩))
          refine ⟨⟨k + 1, by go_num, by omega, HV⟩, by simp [intOf]; omega⟩
      · have hke : k = s.size := by omega
        have HV := Lib.hid (show Tk.tailIn s 1 = true by rw [← H.out]; exact Tk.tailIn_end s hlt)
        subst hke
        clear H hlt HL
        go_wp2
        go_ret
        exact ⟨by rw [HV.out]; rfl, more_refl _⟩
set_option maxRecDepth 100000 in
theorem rName_any (s : ByteArray) (w : World) (hs : s.size < 4294967281) :
    Calls Tryd.prog 66 #[.string s] w fun e w' => e = .returned (.bool (Tk.word s.data.toList && !decide (s.data.toList ∈ Tk.keys))) ∧ ∃ g, w' = more w g := by
  have HW := Lib.hid (fun W => rWord_any s W hs)
  have HK := Lib.hid (fun W => rKey_any s W)
  generalize Tk.word s.data.toList = a at *
  generalize decide (s.data.toList ∈ Tk.keys) = b at *
  cases a
  · go_enter Tryd.func66, Tryd.ntmps66
    go_wp2_with (first | (go_at_call 92; (with_reducible refine (HW.out _).mono ?_); rintro e w2 ⟨rfl, g, rfl⟩) | (go_at_call 49; (with_reducible refine (HK.out _).mono ?_); rintro e w2 ⟨rfl, g, rfl⟩))
    go_ret
    exact ⟨rfl, more_of_below (by repeat' (first | (with_reducible exact Below.refl _ _) | (with_reducible assumption) | (with_reducible refine below_more ?_ ?_ _) | (with_reducible refine below_drewN ?_ _) | (with_reducible refine Below.drew ?_) | (with_reducible refine Below.alloc ?_ ?_ _) | (with_reducible refine Below.setCell ?_ ?_ _) | go_size | (simp [more_size]; done) | (simp [more_size]; omega)))⟩
  · cases b
    · go_enter Tryd.func66, Tryd.ntmps66
      go_wp2_with (first | (go_at_call 92; (with_reducible refine (HW.out _).mono ?_); rintro e w2 ⟨rfl, g, rfl⟩) | (go_at_call 49; (with_reducible refine (HK.out _).mono ?_); rintro e w2 ⟨rfl, g, rfl⟩))
      go_ret
      exact ⟨rfl, more_of_below (by repeat' (first | (with_reducible exact Below.refl _ _) | (with_reducible assumption) | (with_reducible refine below_more ?_ ?_ _) | (with_reducible refine below_drewN ?_ _) | (with_reducible refine Below.drew ?_) | (with_reducible refine Below.alloc ?_ ?_ _) | (with_reducible refine Below.setCell ?_ ?_ _) | go_size | (simp [more_size]; done) | (simp [more_size]; omega)))⟩
    · go_enter Tryd.func66, Tryd.ntmps66
      go_wp2_with (first | (go_at_call 92; (with_reducible refine (HW.out _).mono ?_); rintro e w2 ⟨rfl, g, rfl⟩) | (go_at_call 49; (with_reducible refine (HK.out _).mono ?_); rintro e w2 ⟨rfl, g, rfl⟩))
      go_ret
      exact ⟨rfl, more_of_below (by repeat' (first | (with_reducible exact Below.refl _ _) | (with_reducible assumption) | (with_reducible refine below_more ?_ ?_ _) | (with_reducible refine below_drewN ?_ _) | (with_reducible refine Below.drew ?_) | (with_reducible refine Below.alloc ?_ ?_ _) | (with_reducible refine Below.setCell ?_ ?_ _) | go_size | (simp [more_size]; done) | (simp [more_size]; omega)))⟩
set_option maxRecDepth 100000 in
set_option maxHeartbeats 1600000 in
theorem rString_any (s : ByteArray) (w : World) (hs : s.size < 4294967281) :
    Calls Tryd.prog 67 #[.string s] w fun e w' => e = .returned (.bool (decide (s.data.toList.length ≤ 64) && s.data.toList.all Tk.plain)) ∧ ∃ g, w' = more w g := by
  have hl : s.data.toList.length = s.size := by simp
  rw [hl]
  by_cases h64 : 64 < s.size
  · rw [decide_eq_false (by omega)]
    have h64' : (64 : Int) < (s.size : Int) := by omega
    go_enter Tryd.func67, Tryd.ntmps67
    go_wp2
    go_ret
    exact ⟨rfl, more_refl _⟩
  have h64' : (s.size : Int) ≤ 64 := by omega
  rw [decide_eq_true (by omega), Bool.true_and, show s.data.toList.all Tk.plain = Tk.tailPl s 0 from rfl]
  clear h64 hl
  go_enter Tryd.func67, Tryd.ntmps67
  go_wp2
  go_loop [3] (fun i => ∃ (k : Nat), i = .int .i64 k ∧ k ≤ s.size ∧ Hid (Tk.tailPl s k = Tk.tailPl s 0)) (fun i => s.size - (intOf i).toNat)
  case atStart => exact ⟨0, rfl, by omega, Lib.hid rfl⟩
  case round =>
    obtain ⟨k, rfl, hk, H⟩ := hrel
    by_cases hlt : k < s.size
    · have hst := Tk.tailPl_step s hlt
      generalize hc : s[k] = c at *
      have hb : c.toNat < 256 := c.toNat_lt
      by_cases h32 : c.toNat < 32
      · have h32' : (c.toNat : Int) < 32 := by omega
        have HV := Lib.hid (show Tk.tailPl s 0 = false by rw [← H.out, hst]; simp [Tk.plain]; omega)
        clear hst H h32
        go_wp2
        go_ret
        exact ⟨by rw [HV.out]; rfl, more_refl _⟩
      have h32' : (32 : Int) ≤ (c.toNat : Int) := by omega
      by_cases h34 : c.toNat = 34
      · have e1 : ((c.toNat : Int) == 34) = true := by simp; omega
        have hc34 : c = 34 := by rw [← UInt8.toNat_inj]; exact h34
        have HV := Lib.hid (show Tk.tailPl s 0 = false by rw [← H.out, hst]; simp [Tk.plain, hc34])
        clear hst H h32 h34 hc34
        go_wp2
        go_ret
        exact ⟨by rw [HV.out]; rfl, more_refl _⟩
      · have e1 : ((c.toNat : Int) == 34) = false := by simp; omega
        have HV := Lib.hid (show Tk.tailPl s (k + 1) = Tk.tailPl s 0 by
          rw [← H.out, hst]; simp only [Tk.plain]
          have : (c != 34) = true := by simp; intro h; exact h34 (by rw [h]; rfl)
          rw [decide_eq_true (by omega), this]; simp)
        clear hst H h32 h34
        go_wp2
        refine ⟨⟨k + 1, by go_num, by omega, HV⟩, by simp [intOf]; omega⟩
    · have hke : k = s.size := by omega
      have HV := Lib.hid (show Tk.tailPl s 0 = true by rw [← H.out]; exact Tk.tailPl_end s hlt)
      subst hke
      clear H hlt
      go_wp2
      go_ret
      exact ⟨by rw [HV.out]; rfl, more_refl _⟩
end Go.Proofs.YtcoakhahjdnlfaaDoor
