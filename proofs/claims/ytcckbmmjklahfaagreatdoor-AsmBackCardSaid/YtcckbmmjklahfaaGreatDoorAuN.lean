/- The walk of the document's hash: a line that is a sign and eight digits. Conditions: the text's size is bounded. The walk of the document's Words: what lines were made of. Conditions: the text is not too long. -/
import Derived.Test.YtcckbmmjklahfaaGreatDoorAsX
import Derived.Test.YtcckbmmjklahfaaGreatDoorAuB
import Derived.Test.YtcckbmmjklahfaaGreatDoorAtE
import Derived.Test.YtcckbmmjklahfaaGreatDoorAuK
namespace Go.Proofs.YtcckbmmjklahfaaGreatDoor
set_option linter.all false
open Go.RowKit
namespace As
abbrev dg16 : ByteArray := ⟨#[48, 49, 50, 51, 52, 53, 54, 55, 56, 57, 97, 98, 99, 100, 101, 102]⟩
theorem dg16_at (d : Nat) (h : d < 16) (h2 : d < dg16.size) : dg16[d]'h2 = lx d := by
  have : ∀ d : Fin 16, dg16[d.1]'(by exact d.2) = lx d.1 := by decide
  exact this ⟨d, h⟩
/-- the digit's place, looked for in the first j -/
def dk (c : UInt8) (j : Nat) : Int := match ux c with | some u => if u < j then (u : Int) else -1 | none => -1
theorem dk_zero (c : UInt8) : dk c 0 = -1 := by unfold dk; cases ux c <;> simp
theorem dk_hit {c : UInt8} {j : Nat} (hj : j < 16) (h : lx j = c) : dk c (j + 1) = (j : Int) := by
  have := (lx_facts ⟨j, hj⟩).1
  simp only at this
  unfold dk
  rw [← h, this]
  simp
theorem dk_miss {c : UInt8} {j : Nat} (h : lx j ≠ c) : dk c (j + 1) = dk c j := by
  unfold dk
  cases hu : ux c with
  | none => rfl
  | some u =>
    have := (ux_lt hu).2
    simp only
    by_cases hj : u = j
    · subst hj; exact absurd this h
    · by_cases h1 : u < j
      · rw [if_pos h1, if_pos (by omega)]
      · rw [if_neg h1, if_neg (by omega)]
theorem dk_some {c : UInt8} {u : Nat} (h : ux c = some u) : dk c 16 = (u : Int) := by
  unfold dk; rw [h]; simp only; rw [if_pos (ux_lt h).1]
theorem dk_none {c : UInt8} (h : ux c = none) : dk c 16 = -1 := by unfold dk; rw [h]
/-- what hash tells -/
def hashF (s : List UInt8) : Int × Bool := if s.length = 9 ∧ s.head? = some 35 then match unhexF 0 s.tail with | some a => (a, (decD a).2 != 0) | none => (0, false) else (0, false)
abbrev HRet (s : List UInt8) (e : Ending) : Prop := e = .returned (.tuple #[.int .u32 (hashF s).1, .bool (hashF s).2])
theorem hashF_some {s t : List UInt8} {a : Int} (hs : s = 35 :: t) (h8 : t.length = 8) (h : unhexF 0 t = some a) : hashF s = (a, (decD a).2 != 0) := by
  subst hs
  unfold hashF
  simp [h8, h]
theorem hashF_none {s t : List UInt8} (hs : s = 35 :: t) (h : unhexF 0 t = none) : hashF s = (0, false) := by
  subst hs
  unfold hashF
  simp [h]
theorem hashF_len {s : List UInt8} (h : s.length ≠ 9) : hashF s = (0, false) := by
  unfold hashF; rw [if_neg (fun h2 => h h2.1)]
theorem hashF_head {s : List UInt8} (h : s.head? ≠ some 35) : hashF s = (0, false) := by
  unfold hashF; rw [if_neg (fun h2 => h h2.2)]
theorem no_hash {s : List UInt8} (h : ∀ t, s = 35 :: t → ∀ z, unhex t = some z → lineF z ≠ none) : eitherX s = wordF s := by
  by_cases hh : s.head? = some 35
  · cases s with
    | nil => cases hh
    | cons c t =>
      simp only [List.head?_cons, Option.some.injEq] at hh
      subst hh
      rw [word_hash rfl, ei_no rfl (h t rfl)]
  · exact ei_plain hh
theorem no_hash_len {s : List UInt8} (h : s.length ≠ 9) : eitherX s = wordF s := no_hash fun t hs z hz => by
  unfold unhex at hz
  rw [if_neg (by rw [hs] at h; simpa using h)] at hz
  cases hz
theorem no_hash_head {s : List UInt8} {c : UInt8} {t : List UInt8} (hs : s = c :: t) (h : c ≠ 35) : eitherX s = wordF s := ei_plain (by rw [hs]; simpa using h)
theorem no_hash_digit {s t : List UInt8} (hs : s = 35 :: t) (h : unhexF 0 t = none) : eitherX s = wordF s := no_hash fun t' hs' z hz => by
  rw [hs] at hs'
  cases hs'
  have := (unhexF_of hz).2.1
  rw [h] at this
  cases this
theorem hash_end {s t : List UInt8} {a : Int} (hs : s = 35 :: t) (h8 : t.length = 8) (h : unhexF 0 t = some a) : ((decD a).2 = 0 ∨ (decD a).2 = 20) ∧ ((decD a).2 ≠ 0 → eitherX s = (a, 0)) ∧ ((decD a).2 = 0 → eitherX s = wordF s) := by
  have hu : unhex t = some a := by unfold unhex; rw [if_pos h8, h]
  obtain ⟨e1, e2, e3⟩ := hex8_unhex hu
  unfold decD
  cases hd : dec a with
  | none =>
    refine ⟨.inr rfl, fun _ => ei_ok e2 e3 (by rw [e1, hs]) (by unfold lineF; rw [hd]; rfl), fun h => by simp at h⟩
  | some x =>
    refine ⟨.inl rfl, fun h => by simp at h, fun _ => no_hash fun t' hs' z hz => ?_⟩
    rw [hs] at hs'
    cases hs'
    rw [hu] at hz
    cases hz
    unfold lineF
    rw [hd]
    simp
theorem hashF_two (s : List UInt8) : (∃ z, hashF s = (z, true) ∧ eitherX s = (z, 0)) ∨ (∃ z, hashF s = (z, false) ∧ eitherX s = wordF s) := by
  by_cases h9 : s.length = 9
  · by_cases hh : s.head? = some 35
    · cases s with
      | nil => cases hh
      | cons c t =>
        simp only [List.head?_cons, Option.some.injEq] at hh
        subst hh
        have h8 : t.length = 8 := by simpa using h9
        cases hu : unhexF 0 t with
        | none => exact .inr ⟨_, hashF_none rfl hu, no_hash_digit rfl hu⟩
        | some a =>
          obtain ⟨h3, h1, h2⟩ := hash_end (s := 35 :: t) rfl h8 hu
          rw [hashF_some rfl h8 hu]
          rcases h3 with h3 | h3
          · exact .inr ⟨a, by rw [h3]; rfl, h2 h3⟩
          · exact .inl ⟨a, by rw [h3]; rfl, h1 (by rw [h3]; decide)⟩
    · exact .inr ⟨_, hashF_head hh, ei_plain hh⟩
  · exact .inr ⟨_, hashF_len h9, no_hash_len h9⟩
/-- the digits before place k tell a -/
def HIn (t : List UInt8) (k : Nat) (a : Int) : Prop := 0 ≤ a ∧ a < (16 : Int) ^ (k - 1) ∧ 1 ≤ k ∧ unhexF 0 t = unhexF a (t.drop (k - 1))
theorem hin_small {t : List UInt8} {k : Nat} {a : Int} (h : HIn t k a) (hk : k ≤ 8) : 0 ≤ a ∧ a < 268435456 := by
  obtain ⟨h0, h1, h2, _⟩ := h
  have : (16 : Int) ^ (k - 1) ≤ 16 ^ 7 := by
    have h3 : k = 1 ∨ k = 2 ∨ k = 3 ∨ k = 4 ∨ k = 5 ∨ k = 6 ∨ k = 7 ∨ k = 8 := by omega
    rcases h3 with rfl | rfl | rfl | rfl | rfl | rfl | rfl | rfl <;> decide
  exact ⟨h0, by simp at this; omega⟩
theorem hin_next {t : List UInt8} {k : Nat} {a : Int} (h : HIn t k a) {c : UInt8} (hc : t[k - 1]? = some c) {u : Nat} (hu : ux c = some u) : HIn t (k + 1) (a * 16 + u) := by
  obtain ⟨h0, h1, h2, h3⟩ := h
  obtain ⟨hlt, hget⟩ := List.getElem?_eq_some_iff.1 hc
  have hu16 := (ux_lt hu).1
  refine ⟨by omega, ?_, by omega, ?_⟩
  · rw [show k + 1 - 1 = (k - 1) + 1 by omega, Int.pow_succ]
    omega
  · rw [h3, List.drop_eq_getElem_cons hlt, hget]
    simp only [unhexF, hu]
    rw [show k - 1 + 1 = k + 1 - 1 by omega]
theorem hin_no {t : List UInt8} {k : Nat} {a : Int} (h : HIn t k a) {c : UInt8} (hc : t[k - 1]? = some c) (hu : ux c = none) : unhexF 0 t = none := by
  obtain ⟨h0, h1, h2, h3⟩ := h
  obtain ⟨hlt, hget⟩ := List.getElem?_eq_some_iff.1 hc
  rw [h3, List.drop_eq_getElem_cons hlt, hget]
  simp only [unhexF, hu]
theorem hin_done {t : List UInt8} {a : Int} (h : HIn t 9 a) (h8 : t.length = 8) : unhexF 0 t = some a := by
  obtain ⟨h0, h1, h2, h3⟩ := h
  rw [h3, List.drop_eq_nil_of_le (by omega)]
  rfl
end As
set_option maxRecDepth 100000 in
set_option maxHeartbeats 6400000 in
theorem rhash_len (s : ByteArray) (w : World) (h9 : ((s.size : Int) != 9) = true) :
    Calls Tryz.prog 26 #[.string s] w fun e w' => e = .returned (.tuple #[.int .u32 0, .bool false]) ∧ ∃ g, w' = more w g := by
  go_enter Tryz.func26, Tryz.ntmps26
  go_wp2
  go_ret2
  exact ⟨rfl, more_refl _⟩
set_option maxRecDepth 100000 in
set_option maxHeartbeats 6400000 in
theorem rhash_head (s : ByteArray) (w : World) (h9 : (s.size : Int) = 9) (hp : 0 < s.size) (h0 : (((s[0]'hp).toNat : Int) != 35) = true) :
    Calls Tryz.prog 26 #[.string s] w fun e w' => e = .returned (.tuple #[.int .u32 0, .bool false]) ∧ ∃ g, w' = more w g := by
  go_enter Tryz.func26, Tryz.ntmps26
  go_wp2
  go_ret2
  exact ⟨rfl, more_refl _⟩
set_option maxRecDepth 100000 in
set_option maxHeartbeats 12800000 in
theorem rhash_sign (s : ByteArray) (w : World) (t : List UInt8) (hs : s.data.toList = 35 :: t) (h8 : t.length = 8) (h9 : (s.size : Int) = 9) (hp : 0 < s.size) (h0 : ((s[0]'hp).toNat : Int) = 35) :
    Calls Tryz.prog 26 #[.string s] w fun e w' => As.HRet s.data.toList e ∧ ∃ g, w' = more w g := by
  have hget : ∀ k (hk : k < s.size), 1 ≤ k → t[k - 1]? = some (s[k]'hk) := fun k hk h1 => by
    have : s.data.toList[k]? = some (s[k]'hk) := by rw [List.getElem?_eq_getElem (by simpa using hk)]; rfl
    obtain ⟨m, rfl⟩ : ∃ m, k = m + 1 := ⟨k - 1, by omega⟩
    rw [hs, List.getElem?_cons_succ] at this
    exact this
  replace hget := Lib.hid hget
  have HS := Lib.hid hs
  have H8 := Lib.hid h8
  have HE := Lib.hid (fun a h => As.hashF_some (a := a) hs h8 h)
  have HN := Lib.hid (fun h => As.hashF_none (s := s.data.toList) hs h)
  have hdg := Lib.hid (fun (d : Nat) (h : d < 16) (h2) => As.dg16_at d h h2)
  clear hs h8
  go_enter Tryz.func26, Tryz.ntmps26
  go_wp2
  go_loopw [4, 5] (fun av kv wr => ∃ (k : Nat) (a : Int), 1 ≤ k ∧ k ≤ 9 ∧ kv = .int .i64 k ∧ av = .int .u32 a ∧ Hid (As.HIn t k a) ∧ ∃ g, wr = more w g) (fun _ kv _ => 9 - (intOf kv).toNat)
  case atStart => exact ⟨1, 0, by omega, by omega, rfl, rfl, Lib.hid ⟨by omega, by decide, by omega, rfl⟩, more_refl _⟩
  case round =>
    obtain ⟨k, a, k1, k9, rfl, rfl, HI, g, rfl⟩ := hrel
    by_cases hlt : k < 9
    · have hks : k < s.size := by omega
      have hgk := Lib.hid (hget.out k hks k1)
      have hsm := As.hin_small HI.out (by omega)
      obtain ⟨a0, a1⟩ := hsm
      obtain ⟨c, hc⟩ : ∃ c, c = s[k]'hks := ⟨_, rfl⟩
      rw [← hc] at hgk
      replace hc := hc.symm
      have ki0 : (1 : Int) ≤ (k : Int) := by omega
      have ki1 : (k : Int) < 9 := by omega
      go_wp2
      go_loopw [6, 7] (fun dv jv wr => ∃ (j : Nat) (d : Int), j ≤ 16 ∧ jv = .int .i64 j ∧ dv = .int .i64 d ∧ Hid (d = As.dk c j) ∧ ∃ g, wr = more w g) (fun _ jv _ => 16 - (intOf jv).toNat)
      case atStart => exact ⟨0, -1, by omega, rfl, rfl, Lib.hid (As.dk_zero c).symm, more_of_below (by repeat' (first | (with_reducible exact Below.refl _ _) | (with_reducible assumption) | (with_reducible refine below_more ?_ ?_ _) | (with_reducible refine below_drewN ?_ _) | (with_reducible refine Below.drew ?_) | (with_reducible refine Below.alloc ?_ ?_ _) | (with_reducible refine Below.setCell ?_ ?_ _) | go_size | (simp [more_size]; done) | (simp [more_size]; omega)))⟩
      case round =>
        obtain ⟨j, d, hj, rfl, rfl, HD, g, rfl⟩ := hrel
        by_cases hj16 : j < 16
        · have hdj := hdg.out j hj16 hj16
          have ji : (j : Int) < 16 := by omega
          by_cases he : As.lx j = c
          · have HD2 := Lib.hid (As.dk_hit hj16 he).symm
            rw [he] at hdj
            clear he HD
            go_wp2
            go_quiet (fail)
            go_wp2
            go_roundw
            case rel => exact ⟨j + 1, j, by omega, by go_num, by go_num, HD2, more_of_below (by repeat' (first | (with_reducible exact Below.refl _ _) | (with_reducible assumption) | (with_reducible refine below_more ?_ ?_ _) | (with_reducible refine below_drewN ?_ _) | (with_reducible refine Below.drew ?_) | (with_reducible refine Below.alloc ?_ ?_ _) | (with_reducible refine Below.setCell ?_ ?_ _) | go_size | (simp [more_size]; done) | (simp [more_size]; omega)))⟩
            case measure => simp [intOf]; omega
          · have HD2 := Lib.hid (HD.out.trans (As.dk_miss he).symm)
            have hne : (((As.lx j).toNat : Int) == (c.toNat : Int)) = false := by
              rw [beq_eq_false_iff_ne]
              intro h
              exact he (UInt8.toNat_inj.1 (by omega))
            clear he HD
            go_wp2
            go_quiet (fail)
            go_wp2
            go_roundw
            case rel => exact ⟨j + 1, d, by omega, by go_num, rfl, HD2, more_of_below (by repeat' (first | (with_reducible exact Below.refl _ _) | (with_reducible assumption) | (with_reducible refine below_more ?_ ?_ _) | (with_reducible refine below_drewN ?_ _) | (with_reducible refine Below.drew ?_) | (with_reducible refine Below.alloc ?_ ?_ _) | (with_reducible refine Below.setCell ?_ ?_ _) | go_size | (simp [more_size]; done) | (simp [more_size]; omega)))⟩
            case measure => simp [intOf]; omega
        · have hjj : j = 16 := by omega
          subst hjj
          cases hu : As.ux c with
          | none =>
            have hd : d = -1 := HD.out.trans (As.dk_none hu)
            subst hd
            have HZ := Lib.hid (HN.out (As.hin_no HI.out hgk.out hu))
            clear hu HD
            go_wp2
            go_ret2
            exact ⟨by unfold As.HRet; rw [HZ.out]; rfl, more_of_below (by repeat' (first | (with_reducible exact Below.refl _ _) | (with_reducible assumption) | (with_reducible refine below_more ?_ ?_ _) | (with_reducible refine below_drewN ?_ _) | (with_reducible refine Below.drew ?_) | (with_reducible refine Below.alloc ?_ ?_ _) | (with_reducible refine Below.setCell ?_ ?_ _) | go_size | (simp [more_size]; done) | (simp [more_size]; omega)))⟩
          | some u =>
            have hd : d = (u : Int) := HD.out.trans (As.dk_some hu)
            subst hd
            have HZ := Lib.hid (As.hin_next HI.out hgk.out hu)
            have hu16 := (As.ux_lt hu).1
            have ui : (u : Int) < 16 := by omega
            clear hu HD hu16
            go_wp2
            go_roundw
            case rel => exact ⟨k + 1, a * 16 + u, by omega, by omega, by go_num, by go_num, HZ, more_of_below (by repeat' (first | (with_reducible exact Below.refl _ _) | (with_reducible assumption) | (with_reducible refine below_more ?_ ?_ _) | (with_reducible refine below_drewN ?_ _) | (with_reducible refine Below.drew ?_) | (with_reducible refine Below.alloc ?_ ?_ _) | (with_reducible refine Below.setCell ?_ ?_ _) | go_size | (simp [more_size]; done) | (simp [more_size]; omega)))⟩
            case measure => simp [intOf]; omega
    · have hk : k = 9 := by omega
      subst hk
      have h1 := HE.out a (As.hin_done HI.out H8.out)
      have ha := HI.out
      have a0 : 0 ≤ a := ha.1
      have a1 : a < 4294967296 := by have := ha.2.1; simp at this; omega
      have HD := fun w => rdec_any a w a0 a1
      clear HE ha
      generalize As.decD a = D at *
      obtain ⟨⟨f, u, v', a', b, c, op, n⟩, c'⟩ := D
      simp only [As.iv] at HD
      replace HD := Lib.hid HD
      simp only at h1
      replace h1 := Lib.hid h1
      go_wp2_with (go_at_call 46; (with_reducible refine (HD.out _).mono ?_); rintro e w2 ⟨rfl, g, rfl⟩)
      go_ret2
      exact ⟨by unfold As.HRet; rw [h1.out]; rfl, more_of_below (by repeat' (first | (with_reducible exact Below.refl _ _) | (with_reducible assumption) | (with_reducible refine below_more ?_ ?_ _) | (with_reducible refine below_drewN ?_ _) | (with_reducible refine Below.drew ?_) | (with_reducible refine Below.alloc ?_ ?_ _) | (with_reducible refine Below.setCell ?_ ?_ _) | go_size | (simp [more_size]; done) | (simp [more_size]; omega)))⟩
theorem rhash_any (s : ByteArray) (w : World) :
    Calls Tryz.prog 26 #[.string s] w fun e w' => As.HRet s.data.toList e ∧ ∃ g, w' = more w g := by
  have hsl : s.data.toList.length = s.size := by simp
  by_cases h9 : s.size = 9
  · have hp : 0 < s.size := by omega
    cases hl : s.data.toList with
    | nil => rw [hl] at hsl; simp at hsl; omega
    | cons c t =>
      have hc : s[0]'hp = c := by
        have : s.data.toList[0]? = some (s[0]'hp) := by rw [List.getElem?_eq_getElem (by simpa using hp)]; rfl
        rw [hl] at this
        simpa using this.symm
      rw [hl] at hsl
      simp at hsl
      by_cases h0 : c = 35
      · subst h0
        rw [← hl]
        exact rhash_sign s w t hl (by omega) (by omega) hp (by rw [hc]; rfl)
      · refine (rhash_head s w (by omega) hp (by
          rw [hc, bne_iff_ne]
          intro h
          exact h0 (UInt8.toNat_inj.1 (show c.toNat = 35 by omega)))).mono fun e w' ⟨he, hw⟩ => ⟨by unfold As.HRet; rw [he, As.hashF_head (by simpa using h0)], hw⟩
  · exact (rhash_len s w (by rw [bne_iff_ne]; omega)).mono fun e w' ⟨he, hw⟩ => ⟨by unfold As.HRet; rw [he, As.hashF_len (by omega)], hw⟩
end Go.Proofs.YtcckbmmjklahfaaGreatDoor

namespace Go.Proofs.YtcckbmmjklahfaaGreatDoor
set_option linter.all false
open Go.RowKit
namespace As
/-- what holds behind the bytes before place i: the lines' words ws, of the line that has begun no byte is a line's end -/
structure DSt (s : ByteArray) (w0 wr : World) (f i : Nat) (ws : List Int) (v : Value) : Prop where
  wi : WI s.data.toList ws (s.data.toList.drop f)
  fi : f ≤ i
  is : i ≤ s.size
  no : (10 : UInt8) ∉ (s.data.toList.drop f).take (i - f)
  own : wr.ownsRow w0.heap.size 23 1 v ws.length (wcells ws)
  bel : Below w0.heap.size w0 wr
theorem drop_split (s : ByteArray) (f i : Nat) (hfi : f ≤ i) (hi : i < s.size) (h10 : s[i]'hi = 10) : s.data.toList.drop f = (s.data.toList.drop f).take (i - f) ++ 10 :: s.data.toList.drop (i + 1) := by
  have h1 : (s.data.toList.drop f).drop (i - f) = s.data.toList.drop i := by rw [List.drop_drop, show f + (i - f) = i by omega]
  have h2 : s.data.toList.drop i = s[i]'hi :: s.data.toList.drop (i + 1) := by rw [List.drop_eq_getElem_cons (by simpa using hi)]; rfl
  conv => lhs; rw [← List.take_append_drop (i - f) (s.data.toList.drop f)]
  rw [h1, h2, h10]
theorem ext_list (s : ByteArray) (f i : Nat) (hfi : f ≤ i) : (s.extract f i).data.toList = (s.data.toList.drop f).take (i - f) := by
  simp [List.drop_take]
theorem no_next (s : ByteArray) (f i : Nat) (hfi : f ≤ i) (hi : i < s.size) (h : s[i]'hi ≠ 10) (hn : (10 : UInt8) ∉ (s.data.toList.drop f).take (i - f)) : (10 : UInt8) ∉ (s.data.toList.drop f).take (i + 1 - f) := by
  have h2 : (s.data.toList.drop f)[i - f]? = some (s[i]'hi) := by
    rw [List.getElem?_drop, show f + (i - f) = i by omega, List.getElem?_eq_getElem (by simpa using hi)]; rfl
  rw [show i + 1 - f = (i - f) + 1 by omega, List.take_add_one, h2]
  simp only [Option.toList_some, List.mem_append, List.mem_singleton, not_or]
  exact ⟨hn, fun e => h e.symm⟩
end As
set_option maxRecDepth 100000 in
set_option maxHeartbeats 12800000 in
theorem rWords_any (s : ByteArray) (w : World) (hmax : s.size ≤ 40000) :
    Calls Tryz.prog 10 #[.string s] w fun e w' => As.WRet s.data.toList w' e ∧ ∃ g, w' = more w g := by
  obtain ⟨i0, hi, hz0, hz1, hz2⟩ := info_parts info_word
  have hmi : (s.size : Int) ≤ 40000 := by omega
  have hsl := Lib.hid (show s.data.toList.length = s.size by simp)
  have hcnt := Lib.hid (show s.data.toList.count 10 ≤ s.size from by have := List.count_le_length (a := (10 : UInt8)) (l := s.data.toList); simpa using this)
  have HH := Lib.hid (fun t u => rhash_any t u)
  have HW := Lib.hid (fun t ht u => rWord_any t u ht)
  clear hmax
  go_enter Tryz.func10, Tryz.ntmps10
  go_wp2
  go_loopw [5, 6] (fun nv iv wr => ∃ (k n : Nat), k ≤ s.size ∧ iv = .int .i64 k ∧ nv = .int .i64 n ∧ Hid (n = (s.data.toList.take k).count 10) ∧ ∃ g, wr = more w g) (fun _ iv _ => s.size - (intOf iv).toNat)
  case atStart => exact ⟨0, 0, by omega, rfl, rfl, Lib.hid (by simp), more_refl _⟩
  case round =>
    obtain ⟨k, n, hk, rfl, rfl, HC, g, rfl⟩ := hrel
    by_cases hlt : k < s.size
    · have hsk : s.data.toList[k]? = some (s[k]'hlt) := by rw [List.getElem?_eq_getElem (by simpa using hlt)]; rfl
      have hC := HC.out
      have hle : n ≤ k := by rw [hC]; have := List.count_le_length (a := (10 : UInt8)) (l := s.data.toList.take k); simp at this; omega
      by_cases h10 : s[k]'hlt = 10
      · have hi10 : (((s[k]'hlt).toNat : Int)) = 10 := by rw [h10]; rfl
        have HC2 := Lib.hid (show n + 1 = (s.data.toList.take (k + 1)).count 10 by rw [List.take_add_one, hsk, h10, List.count_append, ← hC]; simp)
        clear h10 hsk hC HC
        go_wp2
        refine ⟨⟨k + 1, n + 1, by omega, by go_num, by go_num, HC2, more_of_below (by repeat' (first | (with_reducible exact Below.refl _ _) | (with_reducible assumption) | (with_reducible refine below_more ?_ ?_ _) | (with_reducible refine below_drewN ?_ _) | (with_reducible refine Below.drew ?_) | (with_reducible refine Below.alloc ?_ ?_ _) | (with_reducible refine Below.setCell ?_ ?_ _) | go_size | (simp [more_size]; done) | (simp [more_size]; omega)))⟩, by simp [intOf]; omega⟩
      · have hi10 : (((s[k]'hlt).toNat : Int) == 10) = false := by
          rw [beq_eq_false_iff_ne]
          intro h
          exact h10 (UInt8.toNat_inj.1 (show (s[k]'hlt).toNat = 10 by omega))
        have HC2 := Lib.hid (show n = (s.data.toList.take (k + 1)).count 10 by
          rw [List.take_add_one, hsk, List.count_append, ← hC]
          simp only [Option.toList_some]
          rw [List.count_eq_zero.2 (by simp; exact fun e => h10 e.symm)]; rfl)
        clear h10 hsk hC HC
        go_wp2
        refine ⟨⟨k + 1, n, by omega, by go_num, rfl, HC2, more_of_below (by repeat' (first | (with_reducible exact Below.refl _ _) | (with_reducible assumption) | (with_reducible refine below_more ?_ ?_ _) | (with_reducible refine below_drewN ?_ _) | (with_reducible refine Below.drew ?_) | (with_reducible refine Below.alloc ?_ ?_ _) | (with_reducible refine Below.setCell ?_ ?_ _) | go_size | (simp [more_size]; done) | (simp [more_size]; omega)))⟩, by simp [intOf]; omega⟩
    · have hks : k = s.size := by omega
      subst hks
      have hC := HC.out
      rw [List.take_of_length_le (by rw [hsl.out]; omega)] at hC
      have hns : (n : Int) ≤ 40000 := by have := hcnt.out; omega
      have HS0 := Lib.hid (As.wi_start (s := s.data.toList) (by omega))
      clear hC HC hk hlt hcnt
      go_wp2
      go_loopw [7, 8, 9] (fun v fv iv wr => ∃ (f k : Nat) (ws : List Int), fv = .int .i64 f ∧ iv = .int .i64 k ∧ Hid (As.DSt s w wr f k ws v)) (fun _ _ iv _ => s.size - (intOf iv).toNat)
      case atStart => exact ⟨0, 0, [], rfl, rfl, Lib.hid ⟨HS0.out, Nat.le_refl _, Nat.zero_le _, by simp, World.ownsRow_nil _ _ _ _, (by repeat' (first | (with_reducible exact Below.refl _ _) | (with_reducible assumption) | (with_reducible refine below_more ?_ ?_ _) | (with_reducible refine below_drewN ?_ _) | (with_reducible refine Below.drew ?_) | (with_reducible refine Below.alloc ?_ ?_ _) | (with_reducible refine Below.setCell ?_ ?_ _) | go_size | (simp [more_size]; done) | (simp [more_size]; omega)))⟩⟩
      case round =>
        obtain ⟨f, k, ws, rfl, rfl, H⟩ := hrel
        clear HS0
        have HO := Lib.hid H.out.own
        have hb1 := H.out.bel
        have hsz := hb1.size
        have hfk := H.out.fi
        have hks := H.out.is
        have wlen := As.wi_len H.out.wi
        by_cases hlt : k < s.size
        · by_cases h10 : s[k]'hlt = 10
          · have hi10 : (((s[k]'hlt).toNat : Int)) = 10 := by rw [h10]; rfl
            have hsplit := As.drop_split s f k hfk hlt h10
            have hext := As.ext_list s f k hfk
            have HWI := H.out.wi
            rw [hsplit, ← hext] at HWI
            have hno := H.out.no
            rw [← hext] at hno
            have hes : (s.extract f k).size ≤ 40000 := by simp [ByteArray.size_extract]; omega
            have HWd := Lib.hid (fun u => HW.out (s.extract f k) hes u)
            have HHd := Lib.hid (fun u => HH.out (s.extract f k) u)
            have HB := Lib.hid (fun h => As.wi_bad HWI hno h)
            have HNz := Lib.hid (fun z h => As.wi_next (z := z) HWI hno h)
            obtain ⟨va, vc, rfl⟩ := As.owns_form HO.out
            have wl2 : (ws.length : Int) ≤ 65536 := by omega
            have f0 : (f : Int) ≤ (k : Int) := by omega
            have k0 : (k : Int) < (s.size : Int) := by omega
            clear h10 hsplit hext HWI hno hes H wlen
            rcases As.hashF_two (s.extract f k).data.toList with ⟨z, hh, he⟩ | ⟨z, hh, he⟩
            · have HNx := Lib.hid (HNz.out z he)
              simp only [As.HRet, hh] at HHd
              clear hh he HNz HB HWd
              go_wp2_with (first | (go_at_call 26; (with_reducible refine (HHd.out _).mono ?_); rintro e w3 ⟨rfl, g3, rfl⟩) | (at_builtin; refine wpList_append_reads rfl _ _ 30 rfl w.heap.size 23 i0 (.int .u32 0) 1 4 Tryz.underlying30 hi hz0 hz1 hz2 rfl (by decide) _ ws.length _ rfl (owns_kept' HO.out ?_) _ 1 [.int .u32 z] rfl (reads_litq _ _ #[.int .u32 z] 23 1 1 (by decide) rfl ?_) ?_ ?_ ?_ ?_ ?_; (focus (exact (by repeat' (first | (with_reducible exact Below.refl _ _) | (with_reducible assumption) | (with_reducible refine below_more ?_ ?_ _) | (with_reducible refine below_drewN ?_ _) | (with_reducible refine Below.drew ?_) | (with_reducible refine Below.alloc ?_ ?_ _) | (with_reducible refine Below.setCell ?_ ?_ _) | go_size | (simp [more_size]; done) | (simp [more_size]; omega))))); (focus (first | rfl | (simp; done) | (simp [more_size]; done))); (focus (intro q hq; simp at hq; subst hq; rfl)); (focus (unfold maxLen; omega)); (focus omega); (focus (first | (simp [more_size]; omega) | omega)); intro v' w1 hown' hgrow))
              refine ⟨⟨k + 1, k + 1, ws ++ [z], by go_num, by go_num, Lib.hid ⟨HNx.out, Nat.le_refl _, by omega, by rw [Nat.sub_self]; simp, by simpa [As.wcells] using hown', below_grown ((by repeat' (first | (with_reducible exact Below.refl _ _) | (with_reducible assumption) | (with_reducible refine below_more ?_ ?_ _) | (with_reducible refine below_drewN ?_ _) | (with_reducible refine Below.drew ?_) | (with_reducible refine Below.alloc ?_ ?_ _) | (with_reducible refine Below.setCell ?_ ?_ _) | go_size | (simp [more_size]; done) | (simp [more_size]; omega)))) (by first | (simp [more_size]; omega) | omega) hgrow (owns_rows HO.out)⟩⟩, by simp [intOf]; omega⟩
            · simp only [As.HRet, hh] at HHd
              rcases As.either_two (s.extract f k).data.toList with ⟨z2, h2⟩ | h2
              · have HNx := Lib.hid (HNz.out z2 h2)
                rw [he] at h2
                simp only [h2] at HWd
                clear hh he h2 HNz HB
                go_wp2_with (first | (go_at_call 26; (with_reducible refine (HHd.out _).mono ?_); rintro e w3 ⟨rfl, g3, rfl⟩) | (go_at_call 8; (with_reducible refine (HWd.out _).mono ?_); rintro e w4 ⟨rfl, g4, rfl⟩) | (at_builtin; refine wpList_append_reads rfl _ _ 30 rfl w.heap.size 23 i0 (.int .u32 0) 1 4 Tryz.underlying30 hi hz0 hz1 hz2 rfl (by decide) _ ws.length _ rfl (owns_kept' HO.out ?_) _ 1 [.int .u32 z2] rfl (reads_litq _ _ #[.int .u32 z2] 23 1 1 (by decide) rfl ?_) ?_ ?_ ?_ ?_ ?_; (focus (exact (by repeat' (first | (with_reducible exact Below.refl _ _) | (with_reducible assumption) | (with_reducible refine below_more ?_ ?_ _) | (with_reducible refine below_drewN ?_ _) | (with_reducible refine Below.drew ?_) | (with_reducible refine Below.alloc ?_ ?_ _) | (with_reducible refine Below.setCell ?_ ?_ _) | go_size | (simp [more_size]; done) | (simp [more_size]; omega))))); (focus (first | rfl | (simp; done) | (simp [more_size]; done))); (focus (intro q hq; simp at hq; subst hq; rfl)); (focus (unfold maxLen; omega)); (focus omega); (focus (first | (simp [more_size]; omega) | omega)); intro v' w1 hown' hgrow))
                refine ⟨⟨k + 1, k + 1, ws ++ [z2], by go_num, by go_num, Lib.hid ⟨HNx.out, Nat.le_refl _, by omega, by rw [Nat.sub_self]; simp, by simpa [As.wcells] using hown', below_grown ((by repeat' (first | (with_reducible exact Below.refl _ _) | (with_reducible assumption) | (with_reducible refine below_more ?_ ?_ _) | (with_reducible refine below_drewN ?_ _) | (with_reducible refine Below.drew ?_) | (with_reducible refine Below.alloc ?_ ?_ _) | (with_reducible refine Below.setCell ?_ ?_ _) | go_size | (simp [more_size]; done) | (simp [more_size]; omega)))) (by first | (simp [more_size]; omega) | omega) hgrow (owns_rows HO.out)⟩⟩, by simp [intOf]; omega⟩
              · have HBd := Lib.hid (HB.out (by rw [h2]; decide))
                rw [he] at h2
                simp only [h2] at HWd
                clear hh he h2 HNz HB
                go_wp2_with (first | (go_at_call 26; (with_reducible refine (HHd.out _).mono ?_); rintro e w3 ⟨rfl, g3, rfl⟩) | (go_at_call 8; (with_reducible refine (HWd.out _).mono ?_); rintro e w4 ⟨rfl, g4, rfl⟩))
                go_ret3
                exact ⟨⟨.slice none 0 0, by rw [HBd.out]; rfl, by rw [HBd.out]; exact reads_nil _ _⟩, more_of_below (by repeat' (first | (with_reducible exact Below.refl _ _) | (with_reducible assumption) | (with_reducible refine below_more ?_ ?_ _) | (with_reducible refine below_drewN ?_ _) | (with_reducible refine Below.drew ?_) | (with_reducible refine Below.alloc ?_ ?_ _) | (with_reducible refine Below.setCell ?_ ?_ _) | go_size | (simp [more_size]; done) | (simp [more_size]; omega)))⟩
          · have hi10 : (((s[k]'hlt).toNat : Int) == 10) = false := by
              rw [beq_eq_false_iff_ne]
              intro h
              exact h10 (UInt8.toNat_inj.1 (show (s[k]'hlt).toNat = 10 by omega))
            have HS2 := Lib.hid (show As.DSt s w wr f (k + 1) ws _ from ⟨H.out.wi, by omega, by omega, As.no_next s f k hfk hlt h10 H.out.no, H.out.own, H.out.bel⟩)
            clear h10 H HO hb1 wlen
            go_wp2
            refine ⟨⟨f, k + 1, ws, rfl, by go_num, HS2⟩, by simp [intOf]; omega⟩
        · have hkk : k = s.size := by omega
          subst hkk
          obtain ⟨va, vc, rfl⟩ := As.owns_form HO.out
          have wl2 : (ws.length : Int) ≤ 65536 := by omega
          have fs : (f : Int) ≤ (s.size : Int) := by omega
          by_cases hf : f < s.size
          · have hno := H.out.no
            rw [List.take_of_length_le (by simp)] at hno
            have HBd := Lib.hid (As.wi_rest H.out.wi (by intro h; have h2 := congrArg List.length h; simp at h2; omega) hno)
            clear hno H wlen hlt
            go_wp2
            go_ret3
            exact ⟨⟨.slice none 0 0, by rw [HBd.out]; rfl, by rw [HBd.out]; exact reads_nil _ _⟩, more_of_below hb1⟩
          · have hfs : f = s.size := by omega
            subst hfs
            have HWI := H.out.wi
            rw [List.drop_eq_nil_of_le (by simp)] at HWI
            have HE := Lib.hid (As.wi_end HWI)
            clear H wlen hlt hf HWI
            go_wp2
            go_ret3
            exact ⟨⟨_, by rw [HE.out]; rfl, by rw [HE.out]; exact Reads.of_owns HO.out⟩, more_of_below hb1⟩
end Go.Proofs.YtcckbmmjklahfaaGreatDoor
