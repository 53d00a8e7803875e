/- The walk of the document's number. Conditions: the text's size is bounded; a digit stands at the place. -/
import Derived.Test.YtcoakhahjdnlfaaDoorTokRa
import Derived.Deep.CutBlock
import Derived.Deep.DeepCutAuto
namespace Go.Proofs.YtcoakhahjdnlfaaDoor
set_option linter.all false
open Go.RowKit
namespace Tk
theorem numT_p (s : ByteArray) {p q : Nat} (hT : ((s.data.toList.drop p).takeWhile hexa).length = q - p) (hpq : p ≤ q) :
    numT (s.data.toList.drop p) =
      if (s.data.toList.drop q).take 1 = [72] then (if val 16 (s.extract p q).data.toList < 4294967296 then .ok (3, [], Sp.sgn (val 16 (s.extract p q).data.toList), q - p + 1) else .error 91)
      else if (s.data.toList.drop q).take 1 = [88] then (if val 16 (s.extract p q).data.toList < 256 then .ok (4, [], val 16 (s.extract p q).data.toList, q - p + 1) else .error 91)
      else if (!(s.extract p q).data.toList.all digit || dots (s.data.toList.drop q)) = true then .error 90
      else if val 10 (s.extract p q).data.toList < 2147483648 then .ok (3, [], val 10 (s.extract p q).data.toList, q - p) else .error 91 := by
  unfold numT
  simp only [hT, List.drop_drop, show p + (q - p) = q by omega]
  rw [tw_extract s hexa hT]
theorem dots_end (s : ByteArray) (q : Nat) (h : ¬ q < s.size) : dots (s.data.toList.drop q) = false := by
  rw [List.drop_eq_nil_of_le (by simp; omega)]; rfl
theorem dots_ne (s : ByteArray) (q : Nat) (h : q < s.size) (hc : ¬ s[q] = 46) : dots (s.data.toList.drop q) = false := by
  rw [drop_at s q h]; simp [dots, hc]
theorem dots_one (s : ByteArray) (q : Nat) (h : q < s.size) (hc : s[q] = 46) (h1 : ¬ q + 1 < s.size) : dots (s.data.toList.drop q) = true := by
  rw [drop_at s q h, List.drop_eq_nil_of_le (by simp; omega)]; simp [dots, hc]
theorem dots_two (s : ByteArray) (q : Nat) (h : q < s.size) (hc : s[q] = 46) (h1 : q + 1 < s.size) : dots (s.data.toList.drop q) = !(s[q + 1] == 46) := by
  rw [drop_at s q h, drop_at s (q + 1) h1]; simp [dots, hc]
  cases hb : (s[q + 1] == 46)
  · simp at hb; simp [hb, bne]
  · simp at hb; simp [hb, bne]
theorem extract_next (s : ByteArray) (p q : Nat) (hpq : p ≤ q) (hq : q < s.size) : (s.extract p (q + 1)).data.toList = (s.extract p q).data.toList ++ [s[q]] := by
  rw [extract_list, extract_list, show q + 1 - p = (q - p) + 1 by omega, List.take_succ, List.getElem?_drop, show p + (q - p) = q by omega]
  rw [List.getElem?_eq_getElem (by simpa using hq)]; rfl
theorem extract_at (s : ByteArray) (p q j : Nat) (hj : p + j < q) (hq : q ≤ s.size) : (s.extract p q).data.toList.drop j = s[p + j] :: (s.extract p q).data.toList.drop (j + 1) := by
  have hl : (s.extract p q).data.toList.length = q - p := by rw [extract_list]; simp; omega
  rw [List.drop_eq_getElem_cons (by omega)]
  congr 1
  have : (s.extract p q).data.toList[j]? = some s[p + j] := by
    rw [extract_list, List.getElem?_take, if_pos (by omega), List.getElem?_drop, List.getElem?_eq_getElem (by simp; omega)]; rfl
  rw [List.getElem?_eq_getElem (by omega)] at this
  exact Option.some.inj this
end Tk
set_option maxRecDepth 1000000 in
set_option maxHeartbeats 4000000 in
theorem rnumber_any (s : ByteArray) (p : Nat) (w : World) (hs : s.size < 4294967281) (hp : p < s.size) (hd : Tk.digit s[p] = true) (R : Tk.R) (hR : Tk.numT (s.data.toList.drop p) = R) :
    Calls Tryd.prog 50 #[.string s, .int .i64 p] w fun e w' => Tk.TokRet R p p e ∧ ∃ g, w' = more w g := by
  have HR := Lib.hid hR
  clear hR hd
  go_enter Tryd.func50, Tryd.ntmps50
  go_upto_block 0 with fail
  go_cut [7, 8] (fun s7 s8 wx => (w.alloc (.cells #[.int .i64 0, .string ⟨#[]⟩, .int .i64 0, .int .i64 0] 34)) = wx ∧ ∃ (q : Nat) (d : Bool), p ≤ q ∧ q ≤ s.size ∧ s7 = .int .i64 q ∧ s8 = .bool d ∧ Hid (((s.data.toList.drop p).takeWhile Tk.hexa).length = q - p ∧ d = (s.extract p q).data.toList.all Tk.digit))
  case first =>
    go_wp2_with fail
    go_loop [7, 8] (fun s7 s8 => ∃ (q : Nat) (d : Bool), p ≤ q ∧ q ≤ s.size ∧ s7 = .int .i64 q ∧ s8 = .bool d ∧ Hid (((s.data.toList.drop p).takeWhile Tk.hexa).length = (q - p) + ((s.data.toList.drop q).takeWhile Tk.hexa).length ∧ d = (s.extract p q).data.toList.all Tk.digit)) (fun s7 _ => s.size - (intOf s7).toNat)
    case atStart => exact ⟨p, true, by omega, by omega, rfl, rfl, Lib.hid ⟨by simp, by rw [Tk.extract_list]; simp⟩⟩
    case round =>
      obtain ⟨q, d, hpq, hq, rfl, rfl, H⟩ := hrel
      by_cases hlt : q < s.size
      · have HX := Lib.hid (rhexa_at (c := s[q]) (r := Tk.hexa s[q]) rfl)
        have HDg := Lib.hid (rdigit_at (c := s[q]) (r := Tk.digit s[q]) rfl)
        cases hx : Tk.hexa s[q]
        · have HN := Lib.hid (show ((s.data.toList.drop p).takeWhile Tk.hexa).length = q - p ∧ d = (s.extract p q).data.toList.all Tk.digit from ⟨Tk.tw_out s Tk.hexa hlt hx H.out.1, H.out.2⟩)
          rw [hx] at HX
          clear H hx HDg
          go_wp2_with (go_at_call 74; (with_reducible refine (HX.out _).mono ?_); rintro e w2 ⟨rfl, rfl⟩)
          go_meet
          exact ⟨rfl, q, d, hpq, hq, rfl, rfl, HN⟩
        · have HN := Lib.hid (show ((s.data.toList.drop p).takeWhile Tk.hexa).length = (q + 1 - p) + ((s.data.toList.drop (q + 1)).takeWhile Tk.hexa).length ∧ (d && Tk.digit s[q]) = (s.extract p (q + 1)).data.toList.all Tk.digit from
            ⟨by have := Tk.tw_in s Tk.hexa hlt hx H.out.1; omega, by rw [Tk.extract_next s p q hpq hlt, List.all_append, ← H.out.2]; simp⟩)
          rw [hx] at HX
          clear H hx
          generalize Tk.digit s[q] = dg at *
          cases d
          · go_wp2_with (first | (go_at_call 74; (with_reducible refine (HX.out _).mono ?_); rintro e w2 ⟨rfl, rfl⟩) | (go_at_call 48; (with_reducible refine (HDg.out _).mono ?_); rintro e w2 ⟨rfl, rfl⟩))
            refine ⟨⟨q + 1, false, by omega, by omega, by simp, rfl, by simpa using HN⟩, by simp [intOf]; omega⟩
          · go_wp2_with (first | (go_at_call 74; (with_reducible refine (HX.out _).mono ?_); rintro e w2 ⟨rfl, rfl⟩) | (go_at_call 48; (with_reducible refine (HDg.out _).mono ?_); rintro e w2 ⟨rfl, rfl⟩))
            refine ⟨⟨q + 1, dg, by omega, by omega, by simp, rfl, by simpa using HN⟩, by simp [intOf]; omega⟩
      · have HN := Lib.hid (show ((s.data.toList.drop p).takeWhile Tk.hexa).length = q - p ∧ d = (s.extract p q).data.toList.all Tk.digit from ⟨Tk.tw_end s Tk.hexa hlt H.out.1, H.out.2⟩)
        clear H
        go_wp2
        go_meet
        exact ⟨rfl, q, d, hpq, hq, rfl, rfl, HN⟩
  case rest =>
    obtain ⟨rfl, q, d, hpq, hq, rfl, rfl, H⟩ := hcut
    have HV := Lib.hid (HR.out.symm.trans (Tk.numT_p s H.out.1 hpq))
    have HDg := Lib.hid H.out.2
    have HX := Lib.hid (show ∀ c ∈ (s.extract p q).data.toList, Tk.hexa c = true by
      rw [← Tk.tw_extract s Tk.hexa H.out.1]
      intro c hc
      exact List.all_eq_true.1 (List.all_takeWhile (l := s.data.toList.drop p) (p := Tk.hexa)) c hc)
    have HAt := Lib.hid (fun j (hj : p + j < q) => Tk.extract_at s p q j hj hq)
    have HLn := Lib.hid (show (s.extract p q).data.toList.length = q - p by rw [Tk.extract_list]; simp; omega)
    clear H HR
    generalize (s.extract p q).data.toList = D at *
    go_upto_block 2 with fail
    go_cut [9, 11, 12] (fun s9 s11 s12 wx =>
      (s9 = .int .i64 16 ∧ s11 = .int .i64 4294967296 ∧ s12 = .int .i64 ((q : Int) + 1) ∧ wx = (w.alloc (.cells #[.int .i64 0, .string ⟨#[]⟩, .int .i64 0, .int .i64 0] 34)).alloc (.cells #[.int .i64 3, .string ⟨#[]⟩, .int .i64 0, .int .i64 p] 34) ∧ q < s.size ∧ Hid (R = if Tk.val 16 D < 4294967296 then .ok (3, [], Sp.sgn (Tk.val 16 D), q - p + 1) else .error 91))
      ∨ (s9 = .int .i64 16 ∧ s11 = .int .i64 256 ∧ s12 = .int .i64 ((q : Int) + 1) ∧ wx = (w.alloc (.cells #[.int .i64 0, .string ⟨#[]⟩, .int .i64 0, .int .i64 0] 34)).alloc (.cells #[.int .i64 4, .string ⟨#[]⟩, .int .i64 0, .int .i64 p] 34) ∧ q < s.size ∧ Hid (R = if Tk.val 16 D < 256 then .ok (4, [], Tk.val 16 D, q - p + 1) else .error 91))
      ∨ (s9 = .int .i64 10 ∧ s11 = .int .i64 2147483648 ∧ s12 = .int .i64 q ∧ wx = (w.alloc (.cells #[.int .i64 0, .string ⟨#[]⟩, .int .i64 0, .int .i64 0] 34)).alloc (.cells #[.int .i64 3, .string ⟨#[]⟩, .int .i64 0, .int .i64 p] 34) ∧ Hid (∀ c ∈ D, Tk.digit c = true) ∧ Hid (R = if Tk.val 10 D < 2147483648 then .ok (3, [], Tk.val 10 D, q - p) else .error 91)))
    case first =>
      by_cases hlt : q < s.size
      · have HT1 := Lib.hid (Tk.take1_at s q hlt)
        have HD1 := Lib.hid (Tk.dots_ne s q hlt)
        have HD2 := Lib.hid (Tk.dots_one s q hlt)
        have HD3 := Lib.hid (Tk.dots_two s q hlt)
        have h256 : s[q].toNat < 256 := UInt8.toNat_lt _
        by_cases h72 : s[q].toNat = 72
        · have hc : s[q] = 72 := by rw [← UInt8.toNat_inj]; exact h72
          have HN := Lib.hid (HV.out.trans (if_pos (by rw [HT1.out, hc])))
          have e72 : ((s[q].toNat : Int) == 72) = true := by simp; omega
          clear HV hc HD1 HD2 HD3 h72
          go_wp2
          go_meet
          exact .inl ⟨rfl, rfl, rfl, rfl, hlt, HN⟩
        · have e72 : ((s[q].toNat : Int) == 72) = false := by simp; omega
          have HV := Lib.hid (HV.out.trans (if_neg (by rw [HT1.out]; intro h; simp at h; exact h72 (by rw [h]; rfl))))
          by_cases h88 : s[q].toNat = 88
          · have hc : s[q] = 88 := by rw [← UInt8.toNat_inj]; exact h88
            have HN := Lib.hid (HV.out.trans (if_pos (by rw [HT1.out, hc])))
            have e88 : ((s[q].toNat : Int) == 88) = true := by simp; omega
            clear HV hc HD1 HD2 HD3 h72 h88
            go_wp2
            go_meet
            exact .inr (.inl ⟨rfl, rfl, rfl, rfl, hlt, HN⟩)
          · have e88 : ((s[q].toNat : Int) == 88) = false := by simp; omega
            have HV := Lib.hid (HV.out.trans (if_neg (by rw [HT1.out]; intro h; simp at h; exact h88 (by rw [h]; rfl))))
            rw [← HDg.out] at HV
            cases d
            · have HN := Lib.hid (HV.out.trans (if_pos (by simp)))
              clear HV HD1 HD2 HD3 h72 h88
              go_wp2
              go_returns
              refine ⟨?_, more_of_below (by repeat' (first | (with_reducible exact Below.refl _ _) | (with_reducible assumption) | (with_reducible refine below_more ?_ ?_ _) | (with_reducible refine below_drewN ?_ _) | (with_reducible refine Below.drew ?_) | (with_reducible refine Below.alloc ?_ ?_ _) | (with_reducible refine Below.setCell ?_ ?_ _) | go_size | (simp [more_size]; done) | (simp [more_size]; omega)))⟩
              rw [HN.out]
              exact ⟨_, _, _, _, _, rfl⟩
            · have HAd := Lib.hid (show ∀ c ∈ D, Tk.digit c = true from List.all_eq_true.1 HDg.out.symm)
              by_cases h46 : s[q].toNat = 46
              · have hc : s[q] = 46 := by rw [← UInt8.toNat_inj]; exact h46
                have e46 : ((s[q].toNat : Int) == 46) = true := by simp; omega
                by_cases hl1 : q + 1 < s.size
                · have HE := Lib.hid (HD3.out hc hl1)
                  have h2 : s[q + 1].toNat < 256 := UInt8.toNat_lt _
                  have eq1 : ((q : Int) + 1 == (s.size : Int)) = false := by simp; omega
                  by_cases h46b : s[q + 1].toNat = 46
                  · have hcb : s[q + 1] = 46 := by rw [← UInt8.toNat_inj]; exact h46b
                    have e46b : ((s[q + 1].toNat : Int) != 46) = false := by simp; omega
                    have HN := Lib.hid (HV.out.trans (if_neg (by rw [HE.out, hcb]; simp)))
                    clear HV HD1 HD2 HD3 HE h72 h88 h46 hc h46b hcb
                    go_wp2
                    go_meet
                    exact .inr (.inr ⟨rfl, rfl, rfl, rfl, HAd, HN⟩)
                  · have hcb : ¬ s[q + 1] = 46 := fun h => h46b (by rw [h]; rfl)
                    have e46b : ((s[q + 1].toNat : Int) != 46) = true := by simp; omega
                    have HN := Lib.hid (HV.out.trans (if_pos (by rw [HE.out]; simp [hcb])))
                    clear HV HD1 HD2 HD3 HE h72 h88 h46 hc h46b hcb
                    go_wp2
                    go_returns
                    refine ⟨?_, more_of_below (by repeat' (first | (with_reducible exact Below.refl _ _) | (with_reducible assumption) | (with_reducible refine below_more ?_ ?_ _) | (with_reducible refine below_drewN ?_ _) | (with_reducible refine Below.drew ?_) | (with_reducible refine Below.alloc ?_ ?_ _) | (with_reducible refine Below.setCell ?_ ?_ _) | go_size | (simp [more_size]; done) | (simp [more_size]; omega)))⟩
                    rw [HN.out]
                    exact ⟨_, _, _, _, _, rfl⟩
                · have HE := Lib.hid (HD2.out hc hl1)
                  have HN := Lib.hid (HV.out.trans (if_pos (by rw [HE.out]; simp)))
                  have eq1 : ((q : Int) + 1 == (s.size : Int)) = true := by simp; omega
                  clear HV HD1 HD2 HD3 HE h72 h88 h46 hc
                  go_wp2
                  go_returns
                  refine ⟨?_, more_of_below (by repeat' (first | (with_reducible exact Below.refl _ _) | (with_reducible assumption) | (with_reducible refine below_more ?_ ?_ _) | (with_reducible refine below_drewN ?_ _) | (with_reducible refine Below.drew ?_) | (with_reducible refine Below.alloc ?_ ?_ _) | (with_reducible refine Below.setCell ?_ ?_ _) | go_size | (simp [more_size]; done) | (simp [more_size]; omega)))⟩
                  rw [HN.out]
                  exact ⟨_, _, _, _, _, rfl⟩
              · have e46 : ((s[q].toNat : Int) == 46) = false := by simp; omega
                have HE := Lib.hid (HD1.out (fun h => h46 (by rw [h]; rfl)))
                have HN := Lib.hid (HV.out.trans (if_neg (by rw [HE.out]; simp)))
                clear HV HD1 HD2 HD3 HE h72 h88 h46
                go_wp2
                go_meet
                exact .inr (.inr ⟨rfl, rfl, rfl, rfl, HAd, HN⟩)
      · have HT1 := Lib.hid (Tk.take1_end s q hlt)
        have HE := Lib.hid (Tk.dots_end s q hlt)
        have HV := Lib.hid ((HV.out.trans (if_neg (by rw [HT1.out]; simp))).trans (if_neg (by rw [HT1.out]; simp)))
        rw [← HDg.out] at HV
        cases d
        · have HN := Lib.hid (HV.out.trans (if_pos (by simp)))
          clear HV
          go_wp2
          go_returns
          refine ⟨?_, more_of_below (by repeat' (first | (with_reducible exact Below.refl _ _) | (with_reducible assumption) | (with_reducible refine below_more ?_ ?_ _) | (with_reducible refine below_drewN ?_ _) | (with_reducible refine Below.drew ?_) | (with_reducible refine Below.alloc ?_ ?_ _) | (with_reducible refine Below.setCell ?_ ?_ _) | go_size | (simp [more_size]; done) | (simp [more_size]; omega)))⟩
          rw [HN.out]
          exact ⟨_, _, _, _, _, rfl⟩
        · have HAd := Lib.hid (show ∀ c ∈ D, Tk.digit c = true from List.all_eq_true.1 HDg.out.symm)
          have HN := Lib.hid (HV.out.trans (if_neg (by rw [HE.out]; simp)))
          clear HV HE
          go_wp2
          go_meet
          exact .inr (.inr ⟨rfl, rfl, rfl, rfl, HAd, HN⟩)
    case rest =>
      rcases hcut with ⟨rfl, rfl, rfl, rfl, hlt, HN⟩ | ⟨rfl, rfl, rfl, rfl, hlt, HN⟩ | ⟨rfl, rfl, rfl, rfl, HAd, HN⟩
      · go_wp2
        go_loop [13, 14] (fun sn si => ∃ (j acc : Nat) (a : Int), p + j ≤ q ∧ si = .int .i64 ((p + j : Nat) : Int) ∧ sn = .int .i64 a ∧ 0 ≤ a ∧ a < 68719476752 ∧ Hid (a = (acc : Int) ∧ Tk.val 16 D = Tk.va 16 acc (D.drop j))) (fun _ si => s.size - (intOf si).toNat)
        case atStart => exact ⟨0, 0, 0, by omega, by simp, rfl, by omega, by omega, Lib.hid ⟨rfl, rfl⟩⟩
        case round =>
          obtain ⟨j, acc, a, hj, rfl, rfl, ha0, hacc, H⟩ := hrel
          obtain ⟨ha, hv⟩ := H.out
          clear H
          by_cases hjq : p + j < q
          · by_cases hlim : a < 4294967296
            · obtain ⟨i, hi⟩ : ∃ i, i = p + j := ⟨_, rfl⟩
              have his : i < s.size := by omega
              have hiq : i < q := by omega
              obtain ⟨c, hc⟩ : ∃ c, s[i] = c := ⟨_, rfl⟩
              have hat : D.drop j = c :: D.drop (j + 1) := by subst hi; rw [← hc]; exact HAt.out j hjq
              have hmem : c ∈ D := by
                have : c ∈ D.drop j := by rw [hat]; simp
                exact List.mem_of_mem_drop this
              rw [← hi]
              have h256 : c.toNat < 256 := c.toNat_lt
              replace hi := Lib.hid hi
              replace hj := Lib.hid hj
              replace hjq := Lib.hid hjq
              rcases Tk.hexa_cases (HX.out c hmem) with ⟨hd0, hd1, hdg⟩ | ⟨hd0, hd1, hdg⟩
              · have HL := Lib.hid (rletter_at (c := c) (r := false) (by simp [Tk.letter]; omega))
                have HN2 := Lib.hid (show a * 16 + ((c.toNat : Int) - 48) = ((acc * 16 + (c.toNat - 48) : Nat) : Int) ∧ Tk.val 16 D = Tk.va 16 (acc * 16 + (c.toNat - 48)) (D.drop (j + 1)) from ⟨by omega, by rw [hv, hat, Tk.va_cons, hdg]⟩)
                clear hat hmem hdg hv ha
                go_wp2_with (go_at_call 47; (with_reducible refine (HL.out _).mono ?_); rintro e w2 ⟨rfl, rfl⟩)
                go_round
                case measure => simp [intOf]; omega
                case rel => exact ⟨j + 1, acc * 16 + (c.toNat - 48), a * 16 + ((c.toNat : Int) - 48), by have := hjq.out; omega, by have := hi.out; congr 1; omega, by first | rfl | (congr 1; omega), by omega, by omega, HN2⟩
              · have HL := Lib.hid (rletter_at (c := c) (r := true) (by simp [Tk.letter]; omega))
                have HN2 := Lib.hid (show a * 16 + ((c.toNat : Int) - 55) = ((acc * 16 + (c.toNat - 55) : Nat) : Int) ∧ Tk.val 16 D = Tk.va 16 (acc * 16 + (c.toNat - 55)) (D.drop (j + 1)) from ⟨by omega, by rw [hv, hat, Tk.va_cons, hdg]⟩)
                clear hat hmem hdg hv ha
                go_wp2_with (go_at_call 47; (with_reducible refine (HL.out _).mono ?_); rintro e w2 ⟨rfl, rfl⟩)
                go_round
                case measure => simp [intOf]; omega
                case rel => exact ⟨j + 1, acc * 16 + (c.toNat - 55), a * 16 + ((c.toNat : Int) - 55), by have := hjq.out; omega, by have := hi.out; congr 1; omega, by first | rfl | (congr 1; omega), by omega, by omega, HN2⟩
            · have HF := Lib.hid (show R = .error 91 by
                have := Tk.va_ge 16 (by decide) (D.drop j) acc
                rw [HN.out, if_neg (by rw [hv]; omega)])
              obtain ⟨i, hi⟩ : ∃ i, i = p + j := ⟨_, rfl⟩
              have hiq : i < q := by omega
              rw [← hi]
              have hl2 : (4294967296 : Int) ≤ a := by omega
              clear HN ha hv hi hj hjq hlim
              go_wp2
              go_returns
              refine ⟨?_, more_of_below (by repeat' (first | (with_reducible exact Below.refl _ _) | (with_reducible assumption) | (with_reducible refine below_more ?_ ?_ _) | (with_reducible refine below_drewN ?_ _) | (with_reducible refine Below.drew ?_) | (with_reducible refine Below.alloc ?_ ?_ _) | (with_reducible refine Below.setCell ?_ ?_ _) | go_size | (simp [more_size]; done) | (simp [more_size]; omega)))⟩
              rw [HF.out]
              exact ⟨_, _, _, _, _, rfl⟩
          · have hje : j = q - p := by omega
            have HVv := Lib.hid (show Tk.val 16 D = acc by rw [hv, List.drop_eq_nil_of_le (by rw [HLn.out]; omega)]; rfl)
            have hpq2 : p + j = q := by omega
            rw [hpq2]
            clear hje hpq2 hjq hj
            by_cases hlim : a < 4294967296
            · by_cases hbig : (2147483648 : Int) ≤ a
              · have hsg : Sp.sgn a = a - 4294967296 := by unfold Sp.sgn; rw [if_pos hbig]
                have HF := Lib.hid (show R = .ok (3, [], a - 4294967296, q - p + 1) by rw [HN.out, HVv.out, if_pos (by omega)]; rw [← ha]; rw [hsg])
                clear HN ha hv HVv hsg
                go_wp2
                go_returns
                refine ⟨?_, more_of_below (by repeat' (first | (with_reducible exact Below.refl _ _) | (with_reducible assumption) | (with_reducible refine below_more ?_ ?_ _) | (with_reducible refine below_drewN ?_ _) | (with_reducible refine Below.drew ?_) | (with_reducible refine Below.alloc ?_ ?_ _) | (with_reducible refine Below.setCell ?_ ?_ _) | go_size | (simp [more_size]; done) | (simp [more_size]; omega)))⟩
                rw [HF.out]
                refine ⟨⟨#[]⟩, rfl, ?_⟩
                have hnx : ((q - p + 1 + p : Nat) : Int) = (q : Int) + 1 := by omega
                rw [hnx]
                rfl
              · have hb2 : a < 2147483648 := by omega
                have hsg : Sp.sgn a = a := by unfold Sp.sgn; rw [if_neg (by omega)]
                have HF := Lib.hid (show R = .ok (3, [], a, q - p + 1) by rw [HN.out, HVv.out, if_pos (by omega)]; rw [← ha]; rw [hsg])
                clear HN ha hv HVv hsg hbig
                go_wp2
                go_returns
                refine ⟨?_, more_of_below (by repeat' (first | (with_reducible exact Below.refl _ _) | (with_reducible assumption) | (with_reducible refine below_more ?_ ?_ _) | (with_reducible refine below_drewN ?_ _) | (with_reducible refine Below.drew ?_) | (with_reducible refine Below.alloc ?_ ?_ _) | (with_reducible refine Below.setCell ?_ ?_ _) | go_size | (simp [more_size]; done) | (simp [more_size]; omega)))⟩
                rw [HF.out]
                refine ⟨⟨#[]⟩, rfl, ?_⟩
                have hnx : ((q - p + 1 + p : Nat) : Int) = (q : Int) + 1 := by omega
                rw [hnx]
                rfl
            · have HF := Lib.hid (show R = .error 91 by rw [HN.out, HVv.out, if_neg (by omega)])
              have hl2 : (4294967296 : Int) ≤ a := by omega
              clear HN ha hv HVv hlim
              go_wp2
              go_returns
              refine ⟨?_, more_of_below (by repeat' (first | (with_reducible exact Below.refl _ _) | (with_reducible assumption) | (with_reducible refine below_more ?_ ?_ _) | (with_reducible refine below_drewN ?_ _) | (with_reducible refine Below.drew ?_) | (with_reducible refine Below.alloc ?_ ?_ _) | (with_reducible refine Below.setCell ?_ ?_ _) | go_size | (simp [more_size]; done) | (simp [more_size]; omega)))⟩
              rw [HF.out]
              exact ⟨_, _, _, _, _, rfl⟩
      · go_wp2
        go_loop [13, 14] (fun sn si => ∃ (j acc : Nat) (a : Int), p + j ≤ q ∧ si = .int .i64 ((p + j : Nat) : Int) ∧ sn = .int .i64 a ∧ 0 ≤ a ∧ a < 4112 ∧ Hid (a = (acc : Int) ∧ Tk.val 16 D = Tk.va 16 acc (D.drop j))) (fun _ si => s.size - (intOf si).toNat)
        case atStart => exact ⟨0, 0, 0, by omega, by simp, rfl, by omega, by omega, Lib.hid ⟨rfl, rfl⟩⟩
        case round =>
          obtain ⟨j, acc, a, hj, rfl, rfl, ha0, hacc, H⟩ := hrel
          obtain ⟨ha, hv⟩ := H.out
          clear H
          by_cases hjq : p + j < q
          · by_cases hlim : a < 256
            · obtain ⟨i, hi⟩ : ∃ i, i = p + j := ⟨_, rfl⟩
              have his : i < s.size := by omega
              have hiq : i < q := by omega
              obtain ⟨c, hc⟩ : ∃ c, s[i] = c := ⟨_, rfl⟩
              have hat : D.drop j = c :: D.drop (j + 1) := by subst hi; rw [← hc]; exact HAt.out j hjq
              have hmem : c ∈ D := by
                have : c ∈ D.drop j := by rw [hat]; simp
                exact List.mem_of_mem_drop this
              rw [← hi]
              have h256 : c.toNat < 256 := c.toNat_lt
              replace hi := Lib.hid hi
              replace hj := Lib.hid hj
              replace hjq := Lib.hid hjq
              rcases Tk.hexa_cases (HX.out c hmem) with ⟨hd0, hd1, hdg⟩ | ⟨hd0, hd1, hdg⟩
              · have HL := Lib.hid (rletter_at (c := c) (r := false) (by simp [Tk.letter]; omega))
                have HN2 := Lib.hid (show a * 16 + ((c.toNat : Int) - 48) = ((acc * 16 + (c.toNat - 48) : Nat) : Int) ∧ Tk.val 16 D = Tk.va 16 (acc * 16 + (c.toNat - 48)) (D.drop (j + 1)) from ⟨by omega, by rw [hv, hat, Tk.va_cons, hdg]⟩)
                clear hat hmem hdg hv ha
                go_wp2_with (go_at_call 47; (with_reducible refine (HL.out _).mono ?_); rintro e w2 ⟨rfl, rfl⟩)
                go_round
                case measure => simp [intOf]; omega
                case rel => exact ⟨j + 1, acc * 16 + (c.toNat - 48), a * 16 + ((c.toNat : Int) - 48), by have := hjq.out; omega, by have := hi.out; congr 1; omega, by first | rfl | (congr 1; omega), by omega, by omega, HN2⟩
              · have HL := Lib.hid (rletter_at (c := c) (r := true) (by simp [Tk.letter]; omega))
                have HN2 := Lib.hid (show a * 16 + ((c.toNat : Int) - 55) = ((acc * 16 + (c.toNat - 55) : Nat) : Int) ∧ Tk.val 16 D = Tk.va 16 (acc * 16 + (c.toNat - 55)) (D.drop (j + 1)) from ⟨by omega, by rw [hv, hat, Tk.va_cons, hdg]⟩)
                clear hat hmem hdg hv ha
                go_wp2_with (go_at_call 47; (with_reducible refine (HL.out _).mono ?_); rintro e w2 ⟨rfl, rfl⟩)
                go_round
                case measure => simp [intOf]; omega
                case rel => exact ⟨j + 1, acc * 16 + (c.toNat - 55), a * 16 + ((c.toNat : Int) - 55), by have := hjq.out; omega, by have := hi.out; congr 1; omega, by first | rfl | (congr 1; omega), by omega, by omega, HN2⟩
            · have HF := Lib.hid (show R = .error 91 by
                have := Tk.va_ge 16 (by decide) (D.drop j) acc
                rw [HN.out, if_neg (by rw [hv]; omega)])
              obtain ⟨i, hi⟩ : ∃ i, i = p + j := ⟨_, rfl⟩
              have hiq : i < q := by omega
              rw [← hi]
              have hl2 : (256 : Int) ≤ a := by omega
              clear HN ha hv hi hj hjq hlim
              go_wp2
              go_returns
              refine ⟨?_, more_of_below (by repeat' (first | (with_reducible exact Below.refl _ _) | (with_reducible assumption) | (with_reducible refine below_more ?_ ?_ _) | (with_reducible refine below_drewN ?_ _) | (with_reducible refine Below.drew ?_) | (with_reducible refine Below.alloc ?_ ?_ _) | (with_reducible refine Below.setCell ?_ ?_ _) | go_size | (simp [more_size]; done) | (simp [more_size]; omega)))⟩
              rw [HF.out]
              exact ⟨_, _, _, _, _, rfl⟩
          · have hje : j = q - p := by omega
            have HVv := Lib.hid (show Tk.val 16 D = acc by rw [hv, List.drop_eq_nil_of_le (by rw [HLn.out]; omega)]; rfl)
            have hpq2 : p + j = q := by omega
            rw [hpq2]
            clear hje hpq2 hjq hj
            by_cases hlim : a < 256
            · have hb2 : a < 2147483648 := by omega
              have HF := Lib.hid (show R = .ok (4, [], a, q - p + 1) by rw [HN.out, HVv.out, if_pos (by omega)]; rw [← ha])
              clear HN ha hv HVv 
              go_wp2
              go_returns
              refine ⟨?_, more_of_below (by repeat' (first | (with_reducible exact Below.refl _ _) | (with_reducible assumption) | (with_reducible refine below_more ?_ ?_ _) | (with_reducible refine below_drewN ?_ _) | (with_reducible refine Below.drew ?_) | (with_reducible refine Below.alloc ?_ ?_ _) | (with_reducible refine Below.setCell ?_ ?_ _) | go_size | (simp [more_size]; done) | (simp [more_size]; omega)))⟩
              rw [HF.out]
              refine ⟨⟨#[]⟩, rfl, ?_⟩
              have hnx : ((q - p + 1 + p : Nat) : Int) = (q : Int) + 1 := by omega
              rw [hnx]
              rfl
            · have HF := Lib.hid (show R = .error 91 by rw [HN.out, HVv.out, if_neg (by omega)])
              have hl2 : (256 : Int) ≤ a := by omega
              clear HN ha hv HVv hlim
              go_wp2
              go_returns
              refine ⟨?_, more_of_below (by repeat' (first | (with_reducible exact Below.refl _ _) | (with_reducible assumption) | (with_reducible refine below_more ?_ ?_ _) | (with_reducible refine below_drewN ?_ _) | (with_reducible refine Below.drew ?_) | (with_reducible refine Below.alloc ?_ ?_ _) | (with_reducible refine Below.setCell ?_ ?_ _) | go_size | (simp [more_size]; done) | (simp [more_size]; omega)))⟩
              rw [HF.out]
              exact ⟨_, _, _, _, _, rfl⟩
      · go_wp2
        go_loop [13, 14] (fun sn si => ∃ (j acc : Nat) (a : Int), p + j ≤ q ∧ si = .int .i64 ((p + j : Nat) : Int) ∧ sn = .int .i64 a ∧ 0 ≤ a ∧ a < 21474836490 ∧ Hid (a = (acc : Int) ∧ Tk.val 10 D = Tk.va 10 acc (D.drop j))) (fun _ si => s.size - (intOf si).toNat)
        case atStart => exact ⟨0, 0, 0, by omega, by simp, rfl, by omega, by omega, Lib.hid ⟨rfl, rfl⟩⟩
        case round =>
          obtain ⟨j, acc, a, hj, rfl, rfl, ha0, hacc, H⟩ := hrel
          obtain ⟨ha, hv⟩ := H.out
          clear H
          by_cases hjq : p + j < q
          · by_cases hlim : a < 2147483648
            · obtain ⟨i, hi⟩ : ∃ i, i = p + j := ⟨_, rfl⟩
              have his : i < s.size := by omega
              have hiq : i < q := by omega
              obtain ⟨c, hc⟩ : ∃ c, s[i] = c := ⟨_, rfl⟩
              have hat : D.drop j = c :: D.drop (j + 1) := by subst hi; rw [← hc]; exact HAt.out j hjq
              have hmem : c ∈ D := by
                have : c ∈ D.drop j := by rw [hat]; simp
                exact List.mem_of_mem_drop this
              rw [← hi]
              have h256 : c.toNat < 256 := c.toNat_lt
              replace hi := Lib.hid hi
              replace hj := Lib.hid hj
              replace hjq := Lib.hid hjq
              obtain ⟨hd0, hd1, hdg⟩ := Tk.digit_cases (HAd.out c hmem)
              have HL := Lib.hid (rletter_at (c := c) (r := false) (by simp [Tk.letter]; omega))
              have HN2 := Lib.hid (show a * 10 + ((c.toNat : Int) - 48) = ((acc * 10 + (c.toNat - 48) : Nat) : Int) ∧ Tk.val 10 D = Tk.va 10 (acc * 10 + (c.toNat - 48)) (D.drop (j + 1)) from ⟨by omega, by rw [hv, hat, Tk.va_cons, hdg]⟩)
              clear hat hmem hdg hv ha
              go_wp2_with (go_at_call 47; (with_reducible refine (HL.out _).mono ?_); rintro e w2 ⟨rfl, rfl⟩)
              go_round
              case measure => simp [intOf]; omega
              case rel => exact ⟨j + 1, acc * 10 + (c.toNat - 48), a * 10 + ((c.toNat : Int) - 48), by have := hjq.out; omega, by have := hi.out; congr 1; omega, by first | rfl | (congr 1; omega), by omega, by omega, HN2⟩
            · have HF := Lib.hid (show R = .error 91 by
                have := Tk.va_ge 10 (by decide) (D.drop j) acc
                rw [HN.out, if_neg (by rw [hv]; omega)])
              obtain ⟨i, hi⟩ : ∃ i, i = p + j := ⟨_, rfl⟩
              have hiq : i < q := by omega
              rw [← hi]
              have hl2 : (2147483648 : Int) ≤ a := by omega
              clear HN ha hv hi hj hjq hlim
              go_wp2
              go_returns
              refine ⟨?_, more_of_below (by repeat' (first | (with_reducible exact Below.refl _ _) | (with_reducible assumption) | (with_reducible refine below_more ?_ ?_ _) | (with_reducible refine below_drewN ?_ _) | (with_reducible refine Below.drew ?_) | (with_reducible refine Below.alloc ?_ ?_ _) | (with_reducible refine Below.setCell ?_ ?_ _) | go_size | (simp [more_size]; done) | (simp [more_size]; omega)))⟩
              rw [HF.out]
              exact ⟨_, _, _, _, _, rfl⟩
          · have hje : j = q - p := by omega
            have HVv := Lib.hid (show Tk.val 10 D = acc by rw [hv, List.drop_eq_nil_of_le (by rw [HLn.out]; omega)]; rfl)
            have hpq2 : p + j = q := by omega
            rw [hpq2]
            clear hje hpq2 hjq hj
            by_cases hlim : a < 2147483648
            · have hb2 : a < 2147483648 := by omega
              have HF := Lib.hid (show R = .ok (3, [], a, q - p) by rw [HN.out, HVv.out, if_pos (by omega)]; rw [← ha])
              clear HN ha hv HVv 
              go_wp2
              go_returns
              refine ⟨?_, more_of_below (by repeat' (first | (with_reducible exact Below.refl _ _) | (with_reducible assumption) | (with_reducible refine below_more ?_ ?_ _) | (with_reducible refine below_drewN ?_ _) | (with_reducible refine Below.drew ?_) | (with_reducible refine Below.alloc ?_ ?_ _) | (with_reducible refine Below.setCell ?_ ?_ _) | go_size | (simp [more_size]; done) | (simp [more_size]; omega)))⟩
              rw [HF.out]
              refine ⟨⟨#[]⟩, rfl, ?_⟩
              have hnx : ((q - p + p : Nat) : Int) = (q : Int) := by omega
              rw [hnx]
              rfl
            · have HF := Lib.hid (show R = .error 91 by rw [HN.out, HVv.out, if_neg (by omega)])
              have hl2 : (2147483648 : Int) ≤ a := by omega
              clear HN ha hv HVv hlim
              go_wp2
              go_returns
              refine ⟨?_, more_of_below (by repeat' (first | (with_reducible exact Below.refl _ _) | (with_reducible assumption) | (with_reducible refine below_more ?_ ?_ _) | (with_reducible refine below_drewN ?_ _) | (with_reducible refine Below.drew ?_) | (with_reducible refine Below.alloc ?_ ?_ _) | (with_reducible refine Below.setCell ?_ ?_ _) | go_size | (simp [more_size]; done) | (simp [more_size]; omega)))⟩
              rw [HF.out]
              exact ⟨_, _, _, _, _, rfl⟩
end Go.Proofs.YtcoakhahjdnlfaaDoor
