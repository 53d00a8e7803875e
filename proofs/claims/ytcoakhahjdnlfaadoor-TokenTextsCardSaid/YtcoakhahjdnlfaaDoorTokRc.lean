/- The walk of the document's one token. Conditions: the text's size is bounded; the place lies in it. -/
import Derived.Test.YtcoakhahjdnlfaaDoorTokRb
import Derived.Test.YtcoakhahjdnlfaaDoorLt2W
namespace Go.Proofs.YtcoakhahjdnlfaaDoor
set_option linter.all false
open Go.RowKit
namespace Tk
theorem tokF_p (s : ByteArray) (p : Nat) (h : p < s.size) : tokF (s.data.toList.drop p) = if letter s[p] = true then wordT (s.data.toList.drop p) else if digit s[p] = true then numT (s.data.toList.drop p) else if s[p] = 34 then textT (s.data.toList.drop (p + 1)) else signT (s.data.toList.drop p) := by
  rw [drop_at s p h]
  simp only [tokF]
theorem sgs_two {l : List UInt8} (h : l.length = 2) : l ∈ sgs ↔ l ∈ signs2 := by
  unfold sgs
  rw [List.mem_append]
  constructor
  · rintro (h1 | h1)
    · exact h1
    · obtain ⟨c, _, rfl⟩ := List.mem_map.1 h1
      simp at h
  · exact fun h1 => .inl h1
theorem sgs_one (c : UInt8) : [c] ∈ sgs ↔ c ∈ signs1 := by
  unfold sgs
  rw [List.mem_append]
  constructor
  · rintro (h1 | h1)
    · simp [signs2] at h1
    · obtain ⟨d, hd, he⟩ := List.mem_map.1 h1
      simp at he; subst he; exact hd
  · exact fun h1 => .inr (List.mem_map.2 ⟨c, h1, rfl⟩)
theorem signs2_len {l : List UInt8} (h : l ∈ signs2) : l.length = 2 := by
  simp only [signs2, List.mem_cons, List.not_mem_nil, or_false] at h
  rcases h with e | e | e | e <;> rw [e] <;> rfl
end Tk
theorem rKey_at {t : ByteArray} {r : Bool} (h : decide (t.data.toList ∈ Tk.keys) = r) (w : World) : Calls Tryd.prog 49 #[.string t] w fun e w' => e = .returned (.bool r) ∧ ∃ g, w' = more w g := by subst h; exact rKey_any t w
theorem rSign_at {t : ByteArray} {r : Bool} (h : decide (t.data.toList ∈ Tk.sgs) = r) (w : World) : Calls Tryd.prog 51 #[.string t] w fun e w' => e = .returned (.bool r) ∧ ∃ g, w' = more w g := by subst h; exact rSign_any t w
set_option maxRecDepth 1000000 in
set_option maxHeartbeats 4000000 in
theorem rone_word (s : ByteArray) (p : Nat) (w : World) (hs : s.size < 4294967281) (hp : p < s.size) (hc : Tk.letter s[p] = true) (R : Tk.R) (hR : Tk.wordT (s.data.toList.drop p) = R) :
    Calls Tryd.prog 25 #[.string s, .int .i64 p] w fun e w' => Tk.TokRet R p p e ∧ ∃ g, w' = more w g := by
  have HL := Lib.hid (rletter_at hc)
  have HR := Lib.hid hR
  clear hR hc
  go_enter Tryd.func25, Tryd.ntmps25
  go_upto_block 1 with (go_at_call 47; (with_reducible refine (HL.out _).mono ?_); rintro e w2 ⟨rfl, rfl⟩)
  go_cut [8] (fun s8 wx => (w.alloc (.cells #[.int .i64 0, .string ⟨#[]⟩, .int .i64 0, .int .i64 0] 34)) = wx ∧ ∃ q : Nat, p ≤ q ∧ q ≤ s.size ∧ s8 = .int .i64 q ∧ Hid (((s.data.toList.drop p).takeWhile Tk.inside).length = q - p))
  case first =>
    go_wp2_with fail
    go_loop [8] (fun s8 => ∃ q : Nat, p ≤ q ∧ q ≤ s.size ∧ s8 = .int .i64 q ∧ Hid (((s.data.toList.drop p).takeWhile Tk.inside).length = (q - p) + ((s.data.toList.drop q).takeWhile Tk.inside).length)) (fun s8 => s.size - (intOf s8).toNat)
    case atStart => exact ⟨p, by omega, by omega, rfl, Lib.hid (by simp)⟩
    case round =>
      obtain ⟨q, hpq, hq, rfl, H⟩ := hrel
      by_cases hlt : q < s.size
      · have HX := Lib.hid (rletter_at (c := s[q]) (r := Tk.letter s[q]) rfl)
        have HDg := Lib.hid (rdigit_at (c := s[q]) (r := Tk.digit s[q]) rfl)
        have HI := Lib.hid (show Tk.inside s[q] = (Tk.letter s[q] || Tk.digit s[q]) from rfl)
        have HT := Lib.hid (fun h => Tk.tw_out s Tk.inside hlt h H.out)
        have HN := Lib.hid (fun h => Tk.tw_in s Tk.inside hlt h H.out)
        clear H
        cases hx : Tk.letter s[q]
        · rw [hx] at HX HI
          cases hy : Tk.digit s[q]
          · rw [hy] at HDg HI
            have HE := Lib.hid (HT.out HI.out)
            clear hx hy HT HN HI
            go_wp2_with (first | (go_at_call 47; (with_reducible refine (HX.out _).mono ?_); rintro e w2 ⟨rfl, rfl⟩) | (go_at_call 48; (with_reducible refine (HDg.out _).mono ?_); rintro e w2 ⟨rfl, rfl⟩))
            go_meet
            exact ⟨rfl, q, hpq, hq, rfl, HE⟩
          · rw [hy] at HDg HI
            have HE := Lib.hid (show ((s.data.toList.drop p).takeWhile Tk.inside).length = (q + 1 - p) + ((s.data.toList.drop (q + 1)).takeWhile Tk.inside).length by have := HN.out HI.out; omega)
            clear hx hy HT HN HI
            go_wp2_with (first | (go_at_call 47; (with_reducible refine (HX.out _).mono ?_); rintro e w2 ⟨rfl, rfl⟩) | (go_at_call 48; (with_reducible refine (HDg.out _).mono ?_); rintro e w2 ⟨rfl, rfl⟩))
            refine ⟨⟨q + 1, by omega, by omega, by simp, HE⟩, by simp [intOf]; omega⟩
        · rw [hx] at HX HI
          have HE := Lib.hid (show ((s.data.toList.drop p).takeWhile Tk.inside).length = (q + 1 - p) + ((s.data.toList.drop (q + 1)).takeWhile Tk.inside).length by have := HN.out HI.out; omega)
          clear hx HT HN HI HDg
          go_wp2_with (go_at_call 47; (with_reducible refine (HX.out _).mono ?_); rintro e w2 ⟨rfl, rfl⟩)
          refine ⟨⟨q + 1, by omega, by omega, by simp, HE⟩, by simp [intOf]; omega⟩
      · have HE := Lib.hid (Tk.tw_end s Tk.inside hlt H.out)
        clear H
        go_wp2
        go_meet
        exact ⟨rfl, q, hpq, hq, rfl, HE⟩
  case rest =>
    obtain ⟨rfl, q, hpq, hq, rfl, H⟩ := hcut
    have HV := Lib.hid (HR.out.symm.trans (Tk.wordT_at s H.out))
    clear H HR
    have hnx : ((q - p + p : Nat) : Int) = q := by omega
    generalize hD : s.extract p q = D at *
    by_cases hk : D.data.toList ∈ Tk.keys
    · have HN := Lib.hid (HV.out.trans (if_pos hk))
      have HK := Lib.hid (rKey_at (t := D) (r := true) (by simp [hk]))
      clear hk HV
      go_wp2_with (go_at_call 49; (with_reducible refine (HK.out _).mono ?_); rintro e w2 ⟨rfl, g, rfl⟩)
      go_returns
      refine ⟨?_, more_of_below (by repeat' (first | (with_reducible exact Below.refl _ _) | (with_reducible assumption) | (with_reducible refine below_more ?_ ?_ _) | (with_reducible refine below_drewN ?_ _) | (with_reducible refine Below.drew ?_) | (with_reducible refine Below.alloc ?_ ?_ _) | (with_reducible refine Below.setCell ?_ ?_ _) | go_size | (simp [more_size]; done) | (simp [more_size]; omega)))⟩
      rw [HN.out]
      exact ⟨D, rfl, by rw [hnx]; rfl⟩
    · have HV := Lib.hid (HV.out.trans (if_neg hk))
      have HK := Lib.hid (rKey_at (t := D) (r := false) (by simp [hk]))
      by_cases hl : 24 < q - p
      · have HN := Lib.hid (HV.out.trans (if_pos hl))
        have hl2 : (24 : Int) < (q : Int) - p := by omega
        clear hk HV hl
        go_wp2_with (go_at_call 49; (with_reducible refine (HK.out _).mono ?_); rintro e w2 ⟨rfl, g, rfl⟩)
        go_returns
        refine ⟨?_, more_of_below (by repeat' (first | (with_reducible exact Below.refl _ _) | (with_reducible assumption) | (with_reducible refine below_more ?_ ?_ _) | (with_reducible refine below_drewN ?_ _) | (with_reducible refine Below.drew ?_) | (with_reducible refine Below.alloc ?_ ?_ _) | (with_reducible refine Below.setCell ?_ ?_ _) | go_size | (simp [more_size]; done) | (simp [more_size]; omega)))⟩
        rw [HN.out]
        exact ⟨_, _, _, _, _, rfl⟩
      · have HN := Lib.hid (HV.out.trans (if_neg hl))
        have hl2 : (q : Int) - p ≤ 24 := by omega
        clear hk HV hl
        go_wp2_with (go_at_call 49; (with_reducible refine (HK.out _).mono ?_); rintro e w2 ⟨rfl, g, rfl⟩)
        go_returns
        refine ⟨?_, more_of_below (by repeat' (first | (with_reducible exact Below.refl _ _) | (with_reducible assumption) | (with_reducible refine below_more ?_ ?_ _) | (with_reducible refine below_drewN ?_ _) | (with_reducible refine Below.drew ?_) | (with_reducible refine Below.alloc ?_ ?_ _) | (with_reducible refine Below.setCell ?_ ?_ _) | go_size | (simp [more_size]; done) | (simp [more_size]; omega)))⟩
        rw [HN.out]
        exact ⟨D, rfl, by rw [hnx]; rfl⟩
end Go.Proofs.YtcoakhahjdnlfaaDoor
