/- The walk of the document's one token: numbers, texts, signs; and all of it. Conditions: the text's size is bounded; the place lies in it. -/
import Derived.Test.YtcoakhahjdnlfaaDoorTokRc
import Derived.Test.YtcoakhahjdnlfaaDoorTokR
namespace Go.Proofs.YtcoakhahjdnlfaaDoor
set_option linter.all false
open Go.RowKit
set_option maxRecDepth 1000000 in
set_option maxHeartbeats 4000000 in
theorem rone_number (s : ByteArray) (p : Nat) (w : World) (hs : s.size < 4294967281) (hp : p < s.size) (hc : Tk.letter s[p] = false) (hd : Tk.digit s[p] = true) (R : Tk.R) (hR : Tk.numT (s.data.toList.drop p) = R) :
    Calls Tryd.prog 25 #[.string s, .int .i64 p] w fun e w' => Tk.TokRet R p p e ∧ ∃ g, w' = more w g := by
  have HL := Lib.hid (rletter_at hc)
  have HD := Lib.hid (rdigit_at hd)
  have HN := Lib.hid (fun W => rnumber_any s p W hs hp hd R hR)
  clear hR hc hd
  go_enter Tryd.func25, Tryd.ntmps25
  go_wp2_with (first | (go_at_call 47; (with_reducible refine (HL.out _).mono ?_); rintro e w2 ⟨rfl, rfl⟩) | (go_at_call 48; (with_reducible refine (HD.out _).mono ?_); rintro e w2 ⟨rfl, rfl⟩) | (go_at_call 50; (with_reducible refine (HN.out _).mono ?_); rintro e w' ⟨hret, g, rfl⟩; obtain ⟨f, t, n, a', m, c, rfl⟩ := Tk.ret_form hret))
  go_returns
  exact ⟨hret, more_of_below (by repeat' (first | (with_reducible exact Below.refl _ _) | (with_reducible assumption) | (with_reducible refine below_more ?_ ?_ _) | (with_reducible refine below_drewN ?_ _) | (with_reducible refine Below.drew ?_) | (with_reducible refine Below.alloc ?_ ?_ _) | (with_reducible refine Below.setCell ?_ ?_ _) | go_size | (simp [more_size]; done) | (simp [more_size]; omega)))⟩
set_option maxRecDepth 1000000 in
set_option maxHeartbeats 4000000 in
theorem rone_text (s : ByteArray) (p : Nat) (w : World) (hs : s.size < 4294967281) (hp : p < s.size) (hc : Tk.letter s[p] = false) (hd : Tk.digit s[p] = false) (hq34 : s[p] = 34) (R : Tk.R) (hR : Tk.textT (s.data.toList.drop (p + 1)) = R) :
    Calls Tryd.prog 25 #[.string s, .int .i64 p] w fun e w' => Tk.TokRet R p p e ∧ ∃ g, w' = more w g := by
  have HL := Lib.hid (rletter_at hc)
  have HD := Lib.hid (rdigit_at hd)
  have HR := Lib.hid hR
  have e34 : ((s[p].toNat : Int) == 34) = true := by rw [hq34]; rfl
  clear hR hc hd hq34
  go_enter Tryd.func25, Tryd.ntmps25
  go_upto_block 3 with (first | (go_at_call 47; (with_reducible refine (HL.out _).mono ?_); rintro e w2 ⟨rfl, rfl⟩) | (go_at_call 48; (with_reducible refine (HD.out _).mono ?_); rintro e w2 ⟨rfl, rfl⟩))
  go_cut [10] (fun s8 wx => (w.alloc (.cells #[.int .i64 0, .string ⟨#[]⟩, .int .i64 0, .int .i64 0] 34)) = wx ∧ ∃ q : Nat, p + 1 ≤ q ∧ q ≤ s.size ∧ s8 = .int .i64 q ∧ Hid (((s.data.toList.drop (p + 1)).takeWhile Tk.plain).length = q - (p + 1)))
  case first =>
    go_wp2_with fail
    go_loop [10] (fun s8 => ∃ q : Nat, p + 1 ≤ q ∧ q ≤ s.size ∧ s8 = .int .i64 q ∧ Hid (((s.data.toList.drop (p + 1)).takeWhile Tk.plain).length = (q - (p + 1)) + ((s.data.toList.drop q).takeWhile Tk.plain).length)) (fun s8 => s.size - (intOf s8).toNat)
    case atStart => exact ⟨p + 1, by omega, by omega, by simp, Lib.hid (by simp)⟩
    case round =>
      obtain ⟨q, hpq, hq, rfl, H⟩ := hrel
      by_cases hlt : q < s.size
      · have HT := Lib.hid (fun h => Tk.tw_out s Tk.plain hlt h H.out)
        have HN := Lib.hid (fun h => Tk.tw_in s Tk.plain hlt h H.out)
        clear H
        generalize hc : s[q] = c at *
        have hb : c.toNat < 256 := c.toNat_lt
        by_cases h32 : 32 ≤ c.toNat
        · have e2 : (32 : Int) ≤ (c.toNat : Int) := by omega
          by_cases h34 : c.toNat = 34
          · have e1 : ((c.toNat : Int) != 34) = false := by simp; omega
            have hc34 : c = 34 := by rw [← UInt8.toNat_inj]; exact h34
            have HE := Lib.hid (HT.out (by rw [hc34]; rfl))
            clear HT HN h34 hc34
            go_wp2
            go_meet
            exact ⟨rfl, q, hpq, hq, rfl, HE⟩
          · have e1 : ((c.toNat : Int) != 34) = true := by simp; omega
            have HE := Lib.hid (show ((s.data.toList.drop (p + 1)).takeWhile Tk.plain).length = (q + 1 - (p + 1)) + ((s.data.toList.drop (q + 1)).takeWhile Tk.plain).length by
              have := HN.out (by simp [Tk.plain, h32]; intro h; exact h34 (by rw [h]; rfl)); omega)
            clear HT HN
            go_wp2
            refine ⟨⟨q + 1, by omega, by omega, by simp, HE⟩, by simp [intOf]; omega⟩
        · have e2 : (c.toNat : Int) < 32 := by omega
          have HE := Lib.hid (HT.out (by simp [Tk.plain]; omega))
          clear HT HN h32
          go_wp2
          go_meet
          exact ⟨rfl, q, hpq, hq, rfl, HE⟩
      · have HE := Lib.hid (Tk.tw_end s Tk.plain hlt H.out)
        clear H
        go_wp2
        go_meet
        exact ⟨rfl, q, hpq, hq, rfl, HE⟩
  case rest =>
    obtain ⟨rfl, q, hpq, hq, rfl, H⟩ := hcut
    have HV := Lib.hid (HR.out.symm.trans (Tk.textT_at s H.out hpq))
    clear H HR
    by_cases hlt : q < s.size
    · have HT1 := Lib.hid (Tk.take1_at s q hlt)
      have hb : s[q].toNat < 256 := UInt8.toNat_lt _
      by_cases h34 : s[q].toNat = 34
      · have hc34 : s[q] = 34 := by rw [← UInt8.toNat_inj]; exact h34
        have e1 : ((s[q].toNat : Int) != 34) = false := by simp; omega
        have HV := Lib.hid (HV.out.trans (if_pos (by rw [HT1.out, hc34])))
        have e0 : ((q : Int) == (s.size : Int)) = false := by simp; omega
        clear HT1 hc34 h34
        by_cases hl : 64 < q - (p + 1)
        · have HN := Lib.hid (HV.out.trans (if_pos hl))
          have hl2 : (64 : Int) < (q : Int) - p - 1 := by omega
          clear HV hl
          go_wp2
          go_returns
          refine ⟨?_, more_of_below (by repeat' (first | (with_reducible exact Below.refl _ _) | (with_reducible assumption) | (with_reducible refine below_more ?_ ?_ _) | (with_reducible refine below_drewN ?_ _) | (with_reducible refine Below.drew ?_) | (with_reducible refine Below.alloc ?_ ?_ _) | (with_reducible refine Below.setCell ?_ ?_ _) | go_size | (simp [more_size]; done) | (simp [more_size]; omega)))⟩
          rw [HN.out]
          exact ⟨_, _, _, _, _, rfl⟩
        · have HN := Lib.hid (HV.out.trans (if_neg hl))
          have hl2 : (q : Int) - p - 1 ≤ 64 := by omega
          have hnx : ((q - (p + 1) + 2 + p : Nat) : Int) = (q : Int) + 1 := by omega
          clear HV hl
          go_wp2
          go_returns
          refine ⟨?_, more_of_below (by repeat' (first | (with_reducible exact Below.refl _ _) | (with_reducible assumption) | (with_reducible refine below_more ?_ ?_ _) | (with_reducible refine below_drewN ?_ _) | (with_reducible refine Below.drew ?_) | (with_reducible refine Below.alloc ?_ ?_ _) | (with_reducible refine Below.setCell ?_ ?_ _) | go_size | (simp [more_size]; done) | (simp [more_size]; omega)))⟩
          rw [HN.out]
          exact ⟨s.extract (p + 1) q, rfl, by rw [hnx]; rfl⟩
      · have e1 : ((s[q].toNat : Int) != 34) = true := by simp; omega
        have e0 : ((q : Int) == (s.size : Int)) = false := by simp; omega
        have HN := Lib.hid (HV.out.trans (if_neg (by rw [HT1.out]; intro h; simp at h; exact h34 (by rw [h]; rfl))))
        clear HT1 HV h34
        go_wp2
        go_returns
        refine ⟨?_, more_of_below (by repeat' (first | (with_reducible exact Below.refl _ _) | (with_reducible assumption) | (with_reducible refine below_more ?_ ?_ _) | (with_reducible refine below_drewN ?_ _) | (with_reducible refine Below.drew ?_) | (with_reducible refine Below.alloc ?_ ?_ _) | (with_reducible refine Below.setCell ?_ ?_ _) | go_size | (simp [more_size]; done) | (simp [more_size]; omega)))⟩
        rw [HN.out]
        exact ⟨_, _, _, _, _, rfl⟩
    · have HT1 := Lib.hid (Tk.take1_end s q hlt)
      have HN := Lib.hid (HV.out.trans (if_neg (by rw [HT1.out]; simp)))
      have e0 : ((q : Int) == (s.size : Int)) = true := by simp; omega
      clear HT1 HV
      go_wp2
      go_returns
      refine ⟨?_, more_of_below (by repeat' (first | (with_reducible exact Below.refl _ _) | (with_reducible assumption) | (with_reducible refine below_more ?_ ?_ _) | (with_reducible refine below_drewN ?_ _) | (with_reducible refine Below.drew ?_) | (with_reducible refine Below.alloc ?_ ?_ _) | (with_reducible refine Below.setCell ?_ ?_ _) | go_size | (simp [more_size]; done) | (simp [more_size]; omega)))⟩
      rw [HN.out]
      exact ⟨_, _, _, _, _, rfl⟩
set_option maxRecDepth 1000000 in
set_option maxHeartbeats 4000000 in
theorem rone_sign (s : ByteArray) (p : Nat) (w : World) (hs : s.size < 4294967281) (hp : p < s.size) (hc : Tk.letter s[p] = false) (hd : Tk.digit s[p] = false) (hq34 : ¬ s[p] = 34) (R : Tk.R) (hR : Tk.signT (s.data.toList.drop p) = R) :
    Calls Tryd.prog 25 #[.string s, .int .i64 p] w fun e w' => Tk.TokRet R p p e ∧ ∃ g, w' = more w g := by
  have HL := Lib.hid (rletter_at hc)
  have HD := Lib.hid (rdigit_at hd)
  have hq' : ¬ s[p].toNat = 34 := fun h => hq34 (by rw [← UInt8.toNat_inj]; exact h)
  have e34 : ((s[p].toNat : Int) == 34) = false := by simp; omega
  have hx1 : (s.extract p (p + 1)).data.toList = [s[p]] := by rw [Tk.extract_list, show p + 1 - p = 1 by omega, Tk.take1_at s p hp]
  have hV1 : Tk.signT (s.data.toList.drop p) = if (s.data.toList.drop p).take 2 ∈ Tk.signs2 then .ok (6, (s.data.toList.drop p).take 2, 0, 2) else if s[p] ∈ Tk.signs1 then .ok (6, [s[p]], 0, 1) else .error 90 := by
    rw [Tk.drop_at s p hp]; rfl
  have HV := Lib.hid (hR.symm.trans hV1)
  have HX1 := Lib.hid hx1
  clear hR hc hd hq34 hq' hV1 hx1
  by_cases h2 : p + 2 ≤ s.size ∧ (s.data.toList.drop p).take 2 ∈ Tk.signs2
  · obtain ⟨hl2, hm⟩ := h2
    have hx2 : (s.extract p (p + 2)).data.toList = (s.data.toList.drop p).take 2 := by rw [Tk.extract_list, show p + 2 - p = 2 by omega]
    have HS := Lib.hid (rSign_at (t := s.extract p (p + 2)) (r := true) (by rw [hx2]; simpa using (Tk.sgs_two (Tk.signs2_len hm)).2 hm))
    have HN := Lib.hid (HV.out.trans (if_pos hm))
    rw [← hx2] at HN
    clear hm HV HX1 hx2
    go_enter Tryd.func25, Tryd.ntmps25
    go_upto_block 5 with (first | (go_at_call 47; (with_reducible refine (HL.out _).mono ?_); rintro e w2 ⟨rfl, rfl⟩) | (go_at_call 48; (with_reducible refine (HD.out _).mono ?_); rintro e w2 ⟨rfl, rfl⟩))
    go_wp2_with fail
    go_loop [11] (fun i => i = .int .i64 2) (fun i => 0)
    case atStart => rfl
    case round =>
      subst hrel
      go_wp2_with (go_at_call 51; (with_reducible refine (HS.out _).mono ?_); rintro e w2 ⟨rfl, g, rfl⟩)
      go_returns
      refine ⟨?_, more_of_below (by repeat' (first | (with_reducible exact Below.refl _ _) | (with_reducible assumption) | (with_reducible refine below_more ?_ ?_ _) | (with_reducible refine below_drewN ?_ _) | (with_reducible refine Below.drew ?_) | (with_reducible refine Below.alloc ?_ ?_ _) | (with_reducible refine Below.setCell ?_ ?_ _) | go_size | (simp [more_size]; done) | (simp [more_size]; omega)))⟩
      rw [HN.out]
      refine ⟨s.extract p (p + 2), rfl, ?_⟩
      have hnx : ((2 + p : Nat) : Int) = (p : Int) + 2 := by omega
      rw [hnx]; rfl
  · have HV2 := Lib.hid (HV.out.trans (if_neg (fun hm => h2 ⟨by have := Tk.signs2_len hm; simp at this; omega, hm⟩)))
    have HS2 : p + 2 ≤ s.size → ∀ w, Calls Tryd.prog 51 #[.string (s.extract p (p + 2))] w fun e w' => e = .returned (.bool false) ∧ ∃ g, w' = more w g := fun hl => rSign_at (t := s.extract p (p + 2)) (r := false) (by
      have hx2 : (s.extract p (p + 2)).data.toList = (s.data.toList.drop p).take 2 := by rw [Tk.extract_list, show p + 2 - p = 2 by omega]
      rw [hx2]
      have : ((s.data.toList.drop p).take 2).length = 2 := by simp; omega
      simp only [decide_eq_false_iff_not]
      intro hm
      exact h2 ⟨hl, (Tk.sgs_two this).1 hm⟩)
    replace HS2 := Lib.hid HS2
    clear h2 HV
    obtain ⟨r, hr⟩ : ∃ r, decide (s[p] ∈ Tk.signs1) = r := ⟨_, rfl⟩
    have HS1 := Lib.hid (rSign_at (t := s.extract p (p + 1)) (r := r) (by rw [HX1.out, ← hr]; simp only [decide_eq_decide]; exact Tk.sgs_one _))
    have HN := Lib.hid (show R = if r = true then .ok (6, (s.extract p (p + 1)).data.toList, 0, 1) else .error 90 by rw [HV2.out, HX1.out, ← hr]; simp only [decide_eq_true_eq])
    clear hr HV2 HX1
    go_enter Tryd.func25, Tryd.ntmps25
    go_upto_block 5 with (first | (go_at_call 47; (with_reducible refine (HL.out _).mono ?_); rintro e w2 ⟨rfl, rfl⟩) | (go_at_call 48; (with_reducible refine (HD.out _).mono ?_); rintro e w2 ⟨rfl, rfl⟩))
    go_wp2_with fail
    go_loopw [11] (fun i wr => ∃ k : Nat, k ≤ 2 ∧ i = .int .i64 k ∧ (∃ g, wr = more (w.alloc (.cells #[.int .i64 0, .string ⟨#[]⟩, .int .i64 0, .int .i64 0] 34)) g) ∧ (k = 0 → r = false)) (fun i _ => (intOf i).toNat)
    case atStart => exact ⟨2, by omega, rfl, more_refl _, by simp⟩
    case round =>
      obtain ⟨k, hk, rfl, ⟨g, rfl⟩, hr0⟩ := hrel
      match k, hk with
      | 2, _ =>
        clear hr0
        by_cases hl : p + 2 ≤ s.size
        · have HS := Lib.hid (HS2.out hl)
          clear HS2
          go_wp2_with (go_at_call 51; (with_reducible refine (HS.out _).mono ?_); rintro e w2 ⟨rfl, g2, rfl⟩)
          refine ⟨⟨1, by omega, by simp, ⟨_, rfl⟩, by simp⟩, by simp [intOf]⟩
        · clear HS2
          go_wp2
          refine ⟨⟨1, by omega, by simp, ⟨_, rfl⟩, by simp⟩, by simp [intOf]⟩
      | 1, _ =>
        clear hr0 HS2
        cases r
        · go_wp2_with (go_at_call 51; (with_reducible refine (HS1.out _).mono ?_); rintro e w2 ⟨rfl, g2, rfl⟩)
          refine ⟨⟨0, by omega, by simp, ⟨_, rfl⟩, by simp⟩, by simp [intOf]⟩
        · go_wp2_with (go_at_call 51; (with_reducible refine (HS1.out _).mono ?_); rintro e w2 ⟨rfl, g2, rfl⟩)
          go_returns
          refine ⟨?_, more_of_below (by repeat' (first | (with_reducible exact Below.refl _ _) | (with_reducible assumption) | (with_reducible refine below_more ?_ ?_ _) | (with_reducible refine below_drewN ?_ _) | (with_reducible refine Below.drew ?_) | (with_reducible refine Below.alloc ?_ ?_ _) | (with_reducible refine Below.setCell ?_ ?_ _) | go_size | (simp [more_size]; done) | (simp [more_size]; omega)))⟩
          rw [HN.out]
          refine ⟨s.extract p (p + 1), rfl, ?_⟩
          have hnx : ((1 + p : Nat) : Int) = (p : Int) + 1 := by omega
          rw [hnx]; rfl
      | 0, _ =>
        have hrf := hr0 rfl
        subst hrf
        clear hr0 HS2 HS1
        go_wp2
        go_returns
        refine ⟨?_, more_of_below (by repeat' (first | (with_reducible exact Below.refl _ _) | (with_reducible assumption) | (with_reducible refine below_more ?_ ?_ _) | (with_reducible refine below_drewN ?_ _) | (with_reducible refine Below.drew ?_) | (with_reducible refine Below.alloc ?_ ?_ _) | (with_reducible refine Below.setCell ?_ ?_ _) | go_size | (simp [more_size]; done) | (simp [more_size]; omega)))⟩
        rw [HN.out]
        exact ⟨_, _, _, _, _, rfl⟩
theorem rone_any (s : ByteArray) (p : Nat) (w : World) (hs : s.size < 4294967281) (hp : p < s.size) (R : Tk.R) (hR : Tk.tokF (s.data.toList.drop p) = R) :
    Calls Tryd.prog 25 #[.string s, .int .i64 p] w fun e w' => Tk.TokRet R p p e ∧ ∃ g, w' = more w g := by
  rw [Tk.tokF_p s p hp] at hR
  cases hc : Tk.letter s[p]
  · rw [if_neg (by simp [hc])] at hR
    cases hd : Tk.digit s[p]
    · rw [if_neg (by simp [hd])] at hR
      by_cases hq : s[p] = 34
      · rw [if_pos hq] at hR; exact rone_text s p w hs hp hc hd hq R hR
      · rw [if_neg hq] at hR; exact rone_sign s p w hs hp hc hd hq R hR
    · rw [if_pos hd] at hR; exact rone_number s p w hs hp hc hd R hR
  · rw [if_pos hc] at hR; exact rone_word s p w hs hp hc R hR
end Go.Proofs.YtcoakhahjdnlfaaDoor
