/- The walks of the document's index and cut. Conditions: texts are not too long. The walks of the document's number and register. Conditions: texts are not too long. -/
import Derived.Test.YtcckbmmjklahfaaGreatDoorAsL
namespace Go.Proofs.YtcckbmmjklahfaaGreatDoor
set_option linter.all false
open Go.RowKit
theorem ne_bytes3 {x y : ByteArray} (h : x ≠ y) : (x.toList == y.toList) = false := by
  rw [beq_eq_false_iff_ne]
  intro e
  exact h (ByteArray.ext (Array.ext' (by simpa [ByteArray.toList_eq] using e)))
namespace As
theorem find_at {l : List (List UInt8)} {s : List UInt8} {k : Nat} (hk : k < l.length) (h : l[k] = s) (hn : ∀ j (hj : j < k), l[j]'(by omega) ≠ s) : find l s = k := by
  unfold find
  have : l.findIdx? (· == s) = some k := by
    rw [List.findIdx?_eq_some_iff_getElem]
    exact ⟨hk, by simp [h], fun j hj => by simpa using hn j hj⟩
  rw [this]
theorem find_no {l : List (List UInt8)} {s : List UInt8} (hn : ∀ j (hj : j < l.length), l[j] ≠ s) : find l s = -1 := by
  unfold find
  have : l.findIdx? (· == s) = none := by
    rw [List.findIdx?_eq_none_iff]
    intro x hx
    obtain ⟨j, hj, rfl⟩ := List.mem_iff_getElem.1 hx
    simpa using hn j hj
  rw [this]
end As
set_option maxRecDepth 100000 in
set_option maxHeartbeats 1600000 in
theorem rindex_any (l : List (List UInt8)) (s : ByteArray) (b c : Nat) (w : World) (hl : l.length ≤ 100) (hc : l.length ≤ c) (hb : w.heap[b]? = some (.cells (As.scs l) 9 (0, 0))) :
    Calls Tryz.prog 38 #[.slice (some ⟨b, 0, none⟩) l.length c, .string s] w fun e w' => e = .returned (.int .i64 (As.find l s.data.toList)) ∧ w' = w := by
  have HC := Lib.hid (fun k (h : k < l.length) => show w.cell? ⟨b, k, none⟩ = some (.string ⟨l[k].toArray⟩) by rw [cell_of_row w b k _ _ _ hb]; exact As.scs_at l k h)
  have hl0 : (l.length : Int) ≤ 100 := by omega
  have hc0 : (l.length : Int) ≤ (c : Int) := by omega
  clear hb
  go_enter Tryz.func38, Tryz.ntmps38
  go_wp2
  go_loop [5] (fun i => ∃ k : Nat, k ≤ l.length ∧ i = .int .i64 k ∧ Hid (∀ j (hj : j < k) (hj2 : j < l.length), l[j] ≠ s.data.toList)) (fun i => l.length - (intOf i).toNat)
  case atStart => exact ⟨0, by omega, rfl, Lib.hid (fun j hj => by omega)⟩
  case round =>
    obtain ⟨k, hk, rfl, H⟩ := hrel
    by_cases hlt : k < l.length
    · have hcell := HC.out k hlt
      by_cases he : l[k] = s.data.toList
      · have hs : (⟨l[k].toArray⟩ : ByteArray) = s := ByteArray.ext (Array.ext' (by rw [← he]))
        rw [hs] at hcell
        have HF := Lib.hid (As.find_at hlt he (fun j hj => H.out j hj (by omega)))
        clear he hs
        go_wp2
        go_ret
        exact ⟨by rw [HF.out]; rfl, rfl⟩
      · have hs : (⟨l[k].toArray⟩ : ByteArray) ≠ s := fun e => he (by rw [← e])
        have hn := ne_bytes3 hs
        have HN := Lib.hid (show ∀ j (hj : j < k + 1) (hj2 : j < l.length), l[j] ≠ s.data.toList from fun j hj hj2 => by
          by_cases hjk : j = k
          · subst hjk; exact he
          · exact H.out j (by omega) hj2)
        clear he hs
        generalize (⟨l[k].toArray⟩ : ByteArray) = S at *
        go_wp2
        go_round
        case rel => exact ⟨k + 1, by omega, by go_num, HN⟩
        case measure => simp [intOf]; omega
    · have hk2 : k = l.length := by omega
      subst hk2
      have HF := Lib.hid (As.find_no (fun j hj => H.out j hj hj))
      go_wp2
      go_ret
      exact ⟨by rw [HF.out]; rfl, rfl⟩
namespace As
theorem occ_iff (s sep : ByteArray) (i : Nat) (h : i + sep.size ≤ s.size) : Lib.occAt s.data.toList sep.data.toList i = true ↔ s.extract i (i + sep.size) = sep := by
  have hl : sep.data.toList.length = sep.size := by simp
  have he : (s.extract i (i + sep.size)).data.toList = (s.data.toList.drop i).take sep.size := by
    simp [ByteArray.data_extract, List.extract_eq_take_drop]
  unfold Lib.occAt
  rw [List.isPrefixOf_iff_prefix, List.prefix_iff_eq_take, hl, ← he]
  constructor
  · intro h; exact ByteArray.ext (Array.ext' h.symm)
  · intro h; rw [h]
theorem cut_hit {s sep : ByteArray} {i : Nat} (h : i + sep.size ≤ s.size) (hn : Lib.NoOcc s.data.toList sep.data.toList i) (he : s.extract i (i + sep.size) = sep) :
    Lib.cut s.data.toList sep.data.toList = ((s.extract 0 i).data.toList, (s.extract (i + sep.size) s.size).data.toList, true) := by
  have hs : s.data.toList.length = s.size := by simp
  have hp : sep.data.toList.length = sep.size := by simp
  unfold Lib.cut
  rw [Lib.index_hit hn (by omega) ((occ_iff s sep i h).2 he), if_pos (by omega)]
  simp only [Int.toNat_natCast, hp]
  congr 1
  · simp [ByteArray.data_extract, List.extract_eq_take_drop]
  · congr 1
    simp [ByteArray.data_extract, List.extract_eq_take_drop]
    rw [List.take_of_length_le (by simp)]
/-- what cut tells -/
def CutRet (s sep : ByteArray) (e : Ending) : Prop := ∃ a b : ByteArray, ∃ c : Bool, e = .returned (.tuple #[.string a, .string b, .bool c]) ∧ Lib.cut s.data.toList sep.data.toList = (a.data.toList, b.data.toList, c)
theorem cut_miss {s sep : ByteArray} {i : Nat} (hne : 0 < sep.size) (hn : Lib.NoOcc s.data.toList sep.data.toList i) (h : s.size < i + sep.size) : Lib.cut s.data.toList sep.data.toList = (s.data.toList, [], false) := by
  have hs : s.data.toList.length = s.size := by simp
  have hp : sep.data.toList.length = sep.size := by simp
  unfold Lib.cut
  rw [Lib.index_past (by intro e; rw [e] at hp; simp at hp; omega) hn (by omega), if_neg (by decide)]
end As
set_option maxRecDepth 100000 in
set_option maxHeartbeats 1600000 in
theorem rcut_any (s sep : ByteArray) (w : World) (hs : s.size ≤ 40000) (hp : 0 < sep.size) (hp2 : sep.size ≤ 10) :
    Calls Tryz.prog 17 #[.string s, .string sep] w fun e w' => As.CutRet s sep e ∧ ∃ g, w' = more w g := by
  have hs0 : (s.size : Int) ≤ 40000 := by omega
  have hp0 : (0 : Int) < (sep.size : Int) := by omega
  have hp1 : (sep.size : Int) ≤ 10 := by omega
  go_enter Tryz.func17, Tryz.ntmps17
  go_wp2
  go_loop [7] (fun i => ∃ k : Nat, k ≤ s.size + 1 ∧ i = .int .i64 k ∧ Hid (Lib.NoOcc s.data.toList sep.data.toList k)) (fun i => s.size + 1 - (intOf i).toNat)
  case atStart => exact ⟨0, by omega, rfl, Lib.hid (Lib.NoOcc.zero _ _)⟩
  case round =>
    obtain ⟨k, hk, rfl, H⟩ := hrel
    by_cases hlt : k + sep.size ≤ s.size
    · have hi0 : (k : Int) + (sep.size : Int) ≤ (s.size : Int) := by omega
      have HO := Lib.hid (As.occ_iff s sep k hlt)
      by_cases he : s.extract k (k + sep.size) = sep
      · have HF := Lib.hid (As.cut_hit hlt H.out he)
        have hq0 : (0 : Int) ≤ (k : Int) := by omega
        clear HO
        go_wp2
        go_quiet (fail)
        go_wp2
        go_ret3
        exact ⟨⟨_, _, _, rfl, HF.out⟩, more_of_below (by repeat' (first | (with_reducible exact Below.refl _ _) | (with_reducible assumption) | (with_reducible refine below_more ?_ ?_ _) | (with_reducible refine below_drewN ?_ _) | (with_reducible refine Below.drew ?_) | (with_reducible refine Below.alloc ?_ ?_ _) | (with_reducible refine Below.setCell ?_ ?_ _) | go_size | (simp [more_size]; done) | (simp [more_size]; omega)))⟩
      · have hn := ne_bytes3 he
        have HN := Lib.hid (H.out.succ (by rw [Bool.eq_false_iff]; intro h; exact he (HO.out.1 h)))
        clear he HO
        go_wp2
        go_round
        case rel => exact ⟨k + 1, by omega, by go_num, HN⟩
        case measure => simp [intOf]; omega
    · have hi0 : ¬ (k : Int) + (sep.size : Int) ≤ (s.size : Int) := by omega
      have HF := Lib.hid (As.cut_miss hp H.out (by omega))
      go_wp2
      go_ret3
      exact ⟨⟨s, ⟨#[]⟩, false, rfl, HF.out⟩, more_refl _⟩
end Go.Proofs.YtcckbmmjklahfaaGreatDoor

namespace Go.Proofs.YtcckbmmjklahfaaGreatDoor
set_option linter.all false
open Go.RowKit
namespace As
theorem head_cons (s : ByteArray) (h : 0 < s.size) : s.data.toList = s[0] :: s.data.toList.drop 1 := by
  have := List.drop_eq_getElem_cons (l := s.data.toList) (i := 0) (by simpa using h)
  rw [List.drop_zero] at this
  exact this
theorem take_next (s : ByteArray) (k : Nat) (h : k < s.size) : s.data.toList.take (k + 1) = s.data.toList.take k ++ [s[k]] := by
  rw [List.take_succ_eq_append_getElem (by simpa using h)]; rfl
/-- numR, where the sign is known -/
def numT (s t : List UInt8) (neg : Bool) : Int × Bool :=
  if t.length < 1 ∨ 9 < t.length then (0, false)
  else if t.all Tk.digit = false then (0, false)
  else ((if neg then -(Tk.val 10 t : Int) else (Tk.val 10 t : Int)), decide (Lib.itoa (if neg then -(Tk.val 10 t : Int) else (Tk.val 10 t : Int)) = s))
theorem numR_pos {s : List UInt8} (h : s.head? ≠ some 45) : numR s = numT s s false := by
  unfold numR numT
  simp only [if_neg h]
  simp
theorem numR_neg {s : List UInt8} (h : s.head? = some 45) : numR s = numT s s.tail true := by
  unfold numR numT
  simp only [if_pos h]
  simp
theorem dig_lt (c : UInt8) (h : Tk.digit c = true) : (Tk.dig c : Int) = (c.toNat : Int) - 48 ∧ 48 ≤ c.toNat ∧ c.toNat ≤ 57 := by
  unfold Tk.digit at h
  simp only [Bool.and_eq_true, decide_eq_true_eq] at h
  unfold Tk.dig
  rw [if_pos h.2]
  omega
/-- what is read of the first k bytes -/
def NumIn (t : List UInt8) (k : Nat) (z : Int) : Prop := (t.take k).all Tk.digit = true ∧ z = (Tk.val 10 (t.take k) : Int) ∧ Tk.val 10 (t.take k) < 10 ^ k
theorem numIn_zero (t : List UInt8) : NumIn t 0 0 := by simp [NumIn, Tk.val]
theorem numIn_next {T : ByteArray} {k : Nat} {z : Int} (h : NumIn T.data.toList k z) (hk : k < T.size) (hd : Tk.digit T[k] = true) : NumIn T.data.toList (k + 1) (10 * z + ((T[k].toNat : Int) - 48)) := by
  obtain ⟨h1, h2, h3⟩ := h
  obtain ⟨d1, d2, d3⟩ := dig_lt _ hd
  refine ⟨?_, ?_, ?_⟩
  · rw [take_next T k hk, List.all_append, h1]; simp [hd]
  · rw [take_next T k hk, Tk.val_snoc, h2]; simp only [Int.natCast_add, Int.natCast_mul, d1]; omega
  · rw [take_next T k hk, Tk.val_snoc, Nat.pow_succ]
    have : Tk.dig T[k] ≤ 9 := by omega
    omega
theorem all_no {T : ByteArray} {k : Nat} (hk : k < T.size) (hd : Tk.digit T[k] = false) : T.data.toList.all Tk.digit = false := by
  rw [List.all_eq_false]
  exact ⟨T[k], by
    have : T[k] = T.data.toList[k]'(by simpa using hk) := rfl
    rw [this]; exact List.getElem_mem _, by simp [hd]⟩
theorem numIn_bd {t : List UInt8} {k : Nat} {z : Int} (h : NumIn t k z) (hk : k ≤ 9) : 0 ≤ z ∧ z < 1000000000 := by
  obtain ⟨_, h2, h3⟩ := h
  have : 10 ^ k ≤ 10 ^ 9 := Nat.pow_le_pow_right (by decide) hk
  omega
theorem numIn_bd8 {t : List UInt8} {k : Nat} {z : Int} (h : NumIn t k z) (hk : k ≤ 8) : z < 100000000 := by
  obtain ⟨_, h2, h3⟩ := h
  have : 10 ^ k ≤ 10 ^ 8 := Nat.pow_le_pow_right (by decide) hk
  omega
end As
set_option maxRecDepth 100000 in
set_option maxHeartbeats 3200000 in
theorem rnum_pos (s : ByteArray) (w : World) (hs : s.size ≤ 40000) (hb : ∀ h : 0 < s.size, (((s[0].toNat : Nat) : Int) == 45) = false) :
    Calls Tryz.prog 20 #[.string s] w fun e w' => e = .returned (.tuple #[.int .i64 (As.numT s.data.toList s.data.toList false).1, .bool (As.numT s.data.toList s.data.toList false).2]) ∧ ∃ g, w' = more w g := by
  have e0 : s.data.toList.length = s.size := by simp
  have hs0 : (s.size : Int) ≤ 40000 := by omega
  by_cases hl1 : s.size < 1
  · have hR : As.numT s.data.toList s.data.toList false = (0, false) := by unfold As.numT; rw [if_pos (by omega)]
    rw [hR]
    have hv : (s.size : Int) < 1 := by omega
    clear hb
    clear hR e0
    have hse : ¬ (0 : Int) < (s.size : Int) := by omega
    go_enter Tryz.func20, Tryz.ntmps20
    go_wp2
    go_ret2
    exact ⟨rfl, more_refl _⟩
  have hv1 : ¬ (s.size : Int) < 1 := by omega
  have hs2 : (0 : Int) < (s.size : Int) := by omega
  have h0 : 0 < s.size := by omega
  have hb0 := hb h0
  clear hb
  by_cases hl9 : 9 < s.size
  · have hR : As.numT s.data.toList s.data.toList false = (0, false) := by unfold As.numT; rw [if_pos (by omega)]
    rw [hR]
    have hv : (9 : Int) < (s.size : Int) := by omega
    clear hR e0
    go_enter Tryz.func20, Tryz.ntmps20
    go_wp2
    go_ret2
    exact ⟨rfl, more_refl _⟩
  have hv9 : (s.size : Int) ≤ 9 := by omega
  have HE := Lib.hid (show ¬ (s.data.toList.length < 1 ∨ 9 < s.data.toList.length) by omega)
  clear e0
  go_enter Tryz.func20, Tryz.ntmps20
  go_wp2
  go_loop [6, 7] (fun n i => ∃ (k : Nat) (z : Int), k ≤ s.size ∧ i = .int .i64 k ∧ n = .int .i64 z ∧ Hid (As.NumIn s.data.toList k z)) (fun _ i => s.size - (intOf i).toNat)
  case atStart => exact ⟨0, 0, by omega, rfl, rfl, Lib.hid (As.numIn_zero _)⟩
  case round =>
    obtain ⟨k, z, hk, rfl, rfl, H⟩ := hrel
    have hz := As.numIn_bd H.out (by omega)
    by_cases hlt : k < s.size
    · have h256 : s[k].toNat < 256 := s[k].toNat_lt
      have hz8 := As.numIn_bd8 H.out (by omega)
      have hk9 : (k : Int) < (s.size : Int) := by omega
      cases hd : Tk.digit s[k]
      · have hR := Lib.hid (show As.numT s.data.toList s.data.toList false = (0, false) by unfold As.numT; rw [if_neg HE.out, if_pos (As.all_no hlt hd)])
        unfold Tk.digit at hd
        simp only [Bool.and_eq_false_iff, decide_eq_false_iff_not] at hd
        by_cases h48 : s[k].toNat < 48
        · have t1 : (s[k].toNat : Int) < 48 := by omega
          clear hd h48
          go_wp2
          go_ret2
          exact ⟨by rw [hR.out]; rfl, more_refl _⟩
        · have t1 : ¬ (s[k].toNat : Int) < 48 := by omega
          have t2 : (57 : Int) < (s[k].toNat : Int) := by omega
          clear hd h48
          go_wp2
          go_ret2
          exact ⟨by rw [hR.out]; rfl, more_refl _⟩
      · obtain ⟨-, d1, d2⟩ := As.dig_lt _ hd
        have HN := Lib.hid (As.numIn_next H.out hlt hd)
        have t1 : ¬ (s[k].toNat : Int) < 48 := by omega
        have t2 : ¬ (57 : Int) < (s[k].toNat : Int) := by omega
        have t3 : (48 : Int) ≤ (s[k].toNat : Int) := by omega
        clear hd
        go_wp2
        go_round
        case rel => exact ⟨k + 1, _, by omega, by go_num, rfl, HN⟩
        case measure => simp [intOf]; omega
    · have hk2 : k = s.size := by omega
      have HA := Lib.hid (show s.data.toList.all Tk.digit = true ∧ z = (Tk.val 10 s.data.toList : Int) by
        have h := H.out
        unfold As.NumIn at h
        rw [List.take_of_length_le (by simp; omega)] at h
        exact ⟨h.1, h.2.1⟩)
      have hR := Lib.hid (show As.numT s.data.toList s.data.toList false = (z, decide (Lib.itoa (z) = s.data.toList)) by
        unfold As.numT
        rw [if_neg HE.out, if_neg (by rw [HA.out.1]; decide), ← HA.out.2]
        rfl)
      have hk9 : ¬ (k : Int) < (s.size : Int) := by omega
      have HD := Lib.hid (fun w => rdec_itoa (z) (by omega) (by omega) w)
      obtain ⟨y, hy⟩ : ∃ y : Int, y = z := ⟨_, rfl⟩
      by_cases he : Lib.itoa (z) = s.data.toList
      · have HD2 := Lib.hid (show ∀ w : World, Calls Tryz.prog 41 #[.int .i64 (z)] w fun e w' => e = .returned (.string s) ∧ ∃ g, w' = more w g from fun w => by
          have := HD.out w
          rw [show (⟨(Lib.itoa (z)).toArray⟩ : ByteArray) = s from ByteArray.ext (Array.ext' (by rw [← he]))] at this
          exact this)
        have hR2 := Lib.hid (show As.numT s.data.toList s.data.toList false = (z, true) by rw [hR.out, he]; simp)
        clear he hy HD
        go_wp2_with (go_at_call 41; (with_reducible refine (HD2.out _).mono ?_); rintro e w2 ⟨rfl, g, rfl⟩)
        go_ret2
        exact ⟨by rw [hR2.out]; rfl, more_of_below (by repeat' (first | (with_reducible exact Below.refl _ _) | (with_reducible assumption) | (with_reducible refine below_more ?_ ?_ _) | (with_reducible refine below_drewN ?_ _) | (with_reducible refine Below.drew ?_) | (with_reducible refine Below.alloc ?_ ?_ _) | (with_reducible refine Below.setCell ?_ ?_ _) | go_size | (simp [more_size]; done) | (simp [more_size]; omega)))⟩
      · have hne : (⟨(Lib.itoa (z)).toArray⟩ : ByteArray) ≠ s := fun e => he (by rw [← e])
        have hn := ne_bytes3 hne
        have hR2 := Lib.hid (show As.numT s.data.toList s.data.toList false = (z, false) by rw [hR.out]; simp [he])
        generalize (⟨(Lib.itoa (z)).toArray⟩ : ByteArray) = D at *
        clear he hy hne
        go_wp2_with (go_at_call 41; (with_reducible refine (HD.out _).mono ?_); rintro e w2 ⟨rfl, g, rfl⟩)
        go_ret2
        exact ⟨by rw [hR2.out]; rfl, more_of_below (by repeat' (first | (with_reducible exact Below.refl _ _) | (with_reducible assumption) | (with_reducible refine below_more ?_ ?_ _) | (with_reducible refine below_drewN ?_ _) | (with_reducible refine Below.drew ?_) | (with_reducible refine Below.alloc ?_ ?_ _) | (with_reducible refine Below.setCell ?_ ?_ _) | go_size | (simp [more_size]; done) | (simp [more_size]; omega)))⟩
set_option maxRecDepth 100000 in
set_option maxHeartbeats 3200000 in
theorem rnum_neg (s T : ByteArray) (w : World) (hs : s.size ≤ 40000) (hT : s.extract 1 s.size = T) (hTs : T.size + 1 = s.size) (h0 : 0 < s.size) (hb : (((s[0].toNat : Nat) : Int) == 45) = true) :
    Calls Tryz.prog 20 #[.string s] w fun e w' => e = .returned (.tuple #[.int .i64 (As.numT s.data.toList T.data.toList true).1, .bool (As.numT s.data.toList T.data.toList true).2]) ∧ ∃ g, w' = more w g := by
  have e0 : T.data.toList.length = T.size := by simp
  have hs0 : (s.size : Int) ≤ 40000 := by omega
  have hs1 : (1 : Int) ≤ (s.size : Int) := by omega
  have hs2 : (0 : Int) < (s.size : Int) := by omega
  have HTs := Lib.hid hTs
  clear hTs
  by_cases hl1 : T.size < 1
  · have hR : As.numT s.data.toList T.data.toList true = (0, false) := by unfold As.numT; rw [if_pos (by omega)]
    rw [hR]
    have hv : (T.size : Int) < 1 := by omega
    skip
    clear hR e0
    go_enter Tryz.func20, Tryz.ntmps20
    go_wp2
    go_ret2
    exact ⟨rfl, more_refl _⟩
  have hv1 : ¬ (T.size : Int) < 1 := by omega
  by_cases hl9 : 9 < T.size
  · have hR : As.numT s.data.toList T.data.toList true = (0, false) := by unfold As.numT; rw [if_pos (by omega)]
    rw [hR]
    have hv : (9 : Int) < (T.size : Int) := by omega
    clear hR e0
    go_enter Tryz.func20, Tryz.ntmps20
    go_wp2
    go_ret2
    exact ⟨rfl, more_refl _⟩
  have hv9 : (T.size : Int) ≤ 9 := by omega
  have HE := Lib.hid (show ¬ (T.data.toList.length < 1 ∨ 9 < T.data.toList.length) by omega)
  clear e0
  go_enter Tryz.func20, Tryz.ntmps20
  go_wp2
  go_loop [6, 7] (fun n i => ∃ (k : Nat) (z : Int), k ≤ T.size ∧ i = .int .i64 k ∧ n = .int .i64 z ∧ Hid (As.NumIn T.data.toList k z)) (fun _ i => T.size - (intOf i).toNat)
  case atStart => exact ⟨0, 0, by omega, rfl, rfl, Lib.hid (As.numIn_zero _)⟩
  case round =>
    obtain ⟨k, z, hk, rfl, rfl, H⟩ := hrel
    have hz := As.numIn_bd H.out (by omega)
    by_cases hlt : k < T.size
    · have h256 : T[k].toNat < 256 := T[k].toNat_lt
      have hz8 := As.numIn_bd8 H.out (by omega)
      have hk9 : (k : Int) < (T.size : Int) := by omega
      cases hd : Tk.digit T[k]
      · have hR := Lib.hid (show As.numT s.data.toList T.data.toList true = (0, false) by unfold As.numT; rw [if_neg HE.out, if_pos (As.all_no hlt hd)])
        unfold Tk.digit at hd
        simp only [Bool.and_eq_false_iff, decide_eq_false_iff_not] at hd
        by_cases h48 : T[k].toNat < 48
        · have t1 : (T[k].toNat : Int) < 48 := by omega
          clear hd h48
          go_wp2
          go_ret2
          exact ⟨by rw [hR.out]; rfl, more_refl _⟩
        · have t1 : ¬ (T[k].toNat : Int) < 48 := by omega
          have t2 : (57 : Int) < (T[k].toNat : Int) := by omega
          clear hd h48
          go_wp2
          go_ret2
          exact ⟨by rw [hR.out]; rfl, more_refl _⟩
      · obtain ⟨-, d1, d2⟩ := As.dig_lt _ hd
        have HN := Lib.hid (As.numIn_next H.out hlt hd)
        have t1 : ¬ (T[k].toNat : Int) < 48 := by omega
        have t2 : ¬ (57 : Int) < (T[k].toNat : Int) := by omega
        have t3 : (48 : Int) ≤ (T[k].toNat : Int) := by omega
        clear hd
        go_wp2
        go_round
        case rel => exact ⟨k + 1, _, by omega, by go_num, rfl, HN⟩
        case measure => simp [intOf]; omega
    · have hk2 : k = T.size := by omega
      have HA := Lib.hid (show T.data.toList.all Tk.digit = true ∧ z = (Tk.val 10 T.data.toList : Int) by
        have h := H.out
        unfold As.NumIn at h
        rw [List.take_of_length_le (by simp; omega)] at h
        exact ⟨h.1, h.2.1⟩)
      have hR := Lib.hid (show As.numT s.data.toList T.data.toList true = (-z, decide (Lib.itoa (-z) = s.data.toList)) by
        unfold As.numT
        rw [if_neg HE.out, if_neg (by rw [HA.out.1]; decide), ← HA.out.2]
        rfl)
      have hk9 : ¬ (k : Int) < (T.size : Int) := by omega
      have HD := Lib.hid (fun w => rdec_itoa (-z) (by omega) (by omega) w)
      obtain ⟨y, hy⟩ : ∃ y : Int, y = -z := ⟨_, rfl⟩
      by_cases he : Lib.itoa (-z) = s.data.toList
      · have HD2 := Lib.hid (show ∀ w : World, Calls Tryz.prog 41 #[.int .i64 (-z)] w fun e w' => e = .returned (.string s) ∧ ∃ g, w' = more w g from fun w => by
          have := HD.out w
          rw [show (⟨(Lib.itoa (-z)).toArray⟩ : ByteArray) = s from ByteArray.ext (Array.ext' (by rw [← he]))] at this
          exact this)
        have hR2 := Lib.hid (show As.numT s.data.toList T.data.toList true = (-z, true) by rw [hR.out, he]; simp)
        clear he hy HD
        go_wp2_with (go_at_call 41; (with_reducible refine (HD2.out _).mono ?_); rintro e w2 ⟨rfl, g, rfl⟩)
        go_ret2
        exact ⟨by rw [hR2.out]; rfl, more_of_below (by repeat' (first | (with_reducible exact Below.refl _ _) | (with_reducible assumption) | (with_reducible refine below_more ?_ ?_ _) | (with_reducible refine below_drewN ?_ _) | (with_reducible refine Below.drew ?_) | (with_reducible refine Below.alloc ?_ ?_ _) | (with_reducible refine Below.setCell ?_ ?_ _) | go_size | (simp [more_size]; done) | (simp [more_size]; omega)))⟩
      · have hne : (⟨(Lib.itoa (-z)).toArray⟩ : ByteArray) ≠ s := fun e => he (by rw [← e])
        have hn := ne_bytes3 hne
        have hR2 := Lib.hid (show As.numT s.data.toList T.data.toList true = (-z, false) by rw [hR.out]; simp [he])
        generalize (⟨(Lib.itoa (-z)).toArray⟩ : ByteArray) = D at *
        clear he hy hne
        go_wp2_with (go_at_call 41; (with_reducible refine (HD.out _).mono ?_); rintro e w2 ⟨rfl, g, rfl⟩)
        go_ret2
        exact ⟨by rw [hR2.out]; rfl, more_of_below (by repeat' (first | (with_reducible exact Below.refl _ _) | (with_reducible assumption) | (with_reducible refine below_more ?_ ?_ _) | (with_reducible refine below_drewN ?_ _) | (with_reducible refine Below.drew ?_) | (with_reducible refine Below.alloc ?_ ?_ _) | (with_reducible refine Below.setCell ?_ ?_ _) | go_size | (simp [more_size]; done) | (simp [more_size]; omega)))⟩
theorem rnumber_any (s : ByteArray) (w : World) (hs : s.size ≤ 40000) :
    Calls Tryz.prog 20 #[.string s] w fun e w' => e = .returned (.tuple #[.int .i64 (As.numR s.data.toList).1, .bool (As.numR s.data.toList).2]) ∧ ∃ g, w' = more w g := by
  by_cases h : s.data.toList.head? = some 45
  · rw [As.numR_neg h]
    have h0 : 0 < s.size := by
      rcases Nat.eq_zero_or_pos s.size with h1 | h1
      · have : s.data.toList = [] := List.eq_nil_of_length_eq_zero (by simpa using h1)
        rw [this] at h; cases h
      · exact h1
    have hd : s.data.toList = s[0] :: s.data.toList.drop 1 := As.head_cons s h0
    have hT : (s.extract 1 s.size).data.toList = s.data.toList.tail := by
      simp [ByteArray.data_extract, List.extract_eq_take_drop]
      rw [List.take_of_length_le (by simp)]
    rw [← hT]
    refine rnum_neg s _ w hs rfl ?_ h0 ?_
    · simp [ByteArray.size_extract]; omega
    · rw [hd] at h
      simp only [List.head?_cons, Option.some.injEq] at h
      rw [h]; rfl
  · rw [As.numR_pos h]
    refine rnum_pos s w hs fun h0 => ?_
    have hd : s.data.toList = s[0] :: s.data.toList.drop 1 := As.head_cons s h0
    rw [hd] at h
    simp only [List.head?_cons, Option.some.injEq] at h
    rw [beq_eq_false_iff_ne]
    intro e
    apply h
    apply UInt8.toNat_inj.1
    have e2 : (45 : UInt8).toNat = 45 := rfl
    omega
set_option maxRecDepth 100000 in
set_option maxHeartbeats 1600000 in
theorem rreg_at (s T : ByteArray) (z : Int) (b r : Bool) (w : World) (hs : s.size ≤ 40000) (hT : s.extract 1 s.size = T) (h2 : 2 ≤ s.size) (hb : (((s[0].toNat : Nat) : Int) == 82) = true) (hb2 : (((s[0].toNat : Nat) : Int) != 82) = false)
    (HN : Hid (∀ w, Calls Tryz.prog 20 #[.string T] w fun e w' => e = .returned (.tuple #[.int .i64 z, .bool b]) ∧ ∃ g, w' = more w g)) (hr : Hid ((b && decide (0 ≤ z) && decide (z ≤ 15)) = r)) :
    Calls Tryz.prog 19 #[.string s] w fun e w' => e = .returned (.tuple #[.int .i64 z, .bool r]) ∧ ∃ g, w' = more w g := by
  have hs0 : (s.size : Int) ≤ 40000 := by omega
  have hs1 : (2 : Int) ≤ (s.size : Int) := by omega
  have h0 : 0 < s.size := by omega
  have hs3 : (1 : Int) ≤ (s.size : Int) := by omega
  have fin : ∀ q : Bool, q = r → Ending.returned (.tuple #[.int .i64 z, .bool q]) = .returned (.tuple #[.int .i64 z, .bool r]) := fun q h => by rw [h]
  cases b
  · have hr0 : r = false := by rw [← hr.out]; rfl
    subst hr0
    clear hr fin
    go_enter Tryz.func19, Tryz.ntmps19
    go_wp2_with (go_at_call 20; (with_reducible refine (HN.out _).mono ?_); rintro e w2 ⟨rfl, g, rfl⟩)
    go_ret2
    exact ⟨rfl, more_of_below (by repeat' (first | (with_reducible exact Below.refl _ _) | (with_reducible assumption) | (with_reducible refine below_more ?_ ?_ _) | (with_reducible refine below_drewN ?_ _) | (with_reducible refine Below.drew ?_) | (with_reducible refine Below.alloc ?_ ?_ _) | (with_reducible refine Below.setCell ?_ ?_ _) | go_size | (simp [more_size]; done) | (simp [more_size]; omega)))⟩
  · by_cases h3 : 0 ≤ z
    · by_cases h4 : z ≤ 15
      · have hr0 : r = true := by rw [← hr.out]; simp [h3, h4]
        subst hr0
        clear hr fin
        go_enter Tryz.func19, Tryz.ntmps19
        go_wp2_with (go_at_call 20; (with_reducible refine (HN.out _).mono ?_); rintro e w2 ⟨rfl, g, rfl⟩)
        go_ret2
        exact ⟨rfl, more_of_below (by repeat' (first | (with_reducible exact Below.refl _ _) | (with_reducible assumption) | (with_reducible refine below_more ?_ ?_ _) | (with_reducible refine below_drewN ?_ _) | (with_reducible refine Below.drew ?_) | (with_reducible refine Below.alloc ?_ ?_ _) | (with_reducible refine Below.setCell ?_ ?_ _) | go_size | (simp [more_size]; done) | (simp [more_size]; omega)))⟩
      · have hr0 : r = false := by rw [← hr.out]; simp [h4]
        subst hr0
        have h6 : decide (z ≤ 15) = false := decide_eq_false h4
        clear hr fin h4
        go_enter Tryz.func19, Tryz.ntmps19
        go_wp2_with (go_at_call 20; (with_reducible refine (HN.out _).mono ?_); rintro e w2 ⟨rfl, g, rfl⟩)
        go_ret2
        exact ⟨rfl, more_of_below (by repeat' (first | (with_reducible exact Below.refl _ _) | (with_reducible assumption) | (with_reducible refine below_more ?_ ?_ _) | (with_reducible refine below_drewN ?_ _) | (with_reducible refine Below.drew ?_) | (with_reducible refine Below.alloc ?_ ?_ _) | (with_reducible refine Below.setCell ?_ ?_ _) | go_size | (simp [more_size]; done) | (simp [more_size]; omega)))⟩
    · have hr0 : r = false := by rw [← hr.out]; simp [h3]
      subst hr0
      have h5 : z < 0 := by omega
      clear hr fin h3
      go_enter Tryz.func19, Tryz.ntmps19
      go_wp2_with (go_at_call 20; (with_reducible refine (HN.out _).mono ?_); rintro e w2 ⟨rfl, g, rfl⟩)
      go_ret2
      exact ⟨rfl, more_of_below (by repeat' (first | (with_reducible exact Below.refl _ _) | (with_reducible assumption) | (with_reducible refine below_more ?_ ?_ _) | (with_reducible refine below_drewN ?_ _) | (with_reducible refine Below.drew ?_) | (with_reducible refine Below.alloc ?_ ?_ _) | (with_reducible refine Below.setCell ?_ ?_ _) | go_size | (simp [more_size]; done) | (simp [more_size]; omega)))⟩
set_option maxRecDepth 100000 in
theorem rreg_short (s : ByteArray) (w : World) (h2 : s.size < 2) :
    Calls Tryz.prog 19 #[.string s] w fun e w' => e = .returned (.tuple #[.int .i64 0, .bool false]) ∧ ∃ g, w' = more w g := by
  have hs1 : (s.size : Int) < 2 := by omega
  go_enter Tryz.func19, Tryz.ntmps19
  go_wp2
  go_ret2
  exact ⟨rfl, more_refl _⟩
set_option maxRecDepth 100000 in
theorem rreg_other (s : ByteArray) (w : World) (hs : s.size ≤ 40000) (h2 : 2 ≤ s.size) (hb : (((s[0].toNat : Nat) : Int) == 82) = false) (hb2 : (((s[0].toNat : Nat) : Int) != 82) = true) :
    Calls Tryz.prog 19 #[.string s] w fun e w' => e = .returned (.tuple #[.int .i64 0, .bool false]) ∧ ∃ g, w' = more w g := by
  have hs1 : (2 : Int) ≤ (s.size : Int) := by omega
  have hs0 : (s.size : Int) ≤ 40000 := by omega
  have h0 : 0 < s.size := by omega
  go_enter Tryz.func19, Tryz.ntmps19
  go_wp2
  go_ret2
  exact ⟨rfl, more_refl _⟩
theorem rregister_any (s : ByteArray) (w : World) (hs : s.size ≤ 40000) :
    Calls Tryz.prog 19 #[.string s] w fun e w' => e = .returned (.tuple #[.int .i64 (As.regR s.data.toList).1, .bool (As.regR s.data.toList).2]) ∧ ∃ g, w' = more w g := by
  have e0 : s.data.toList.length = s.size := by simp
  by_cases h2 : s.size < 2
  · have hR : As.regR s.data.toList = (0, false) := by unfold As.regR; rw [if_pos (.inl (by omega))]
    rw [hR]
    exact rreg_short s w h2
  have h0 : 0 < s.size := by omega
  have hd : s.data.toList = s[0] :: s.data.toList.drop 1 := As.head_cons s h0
  have hh : s.data.toList.head? = some s[0] := by rw [hd]; rfl
  by_cases h82 : s[0] = 82
  · have hT : (s.extract 1 s.size).data.toList = s.data.toList.tail := by
      simp [ByteArray.data_extract, List.extract_eq_take_drop]
      rw [List.take_of_length_le (by simp)]
    have hR : As.regR s.data.toList = ((As.numR (s.extract 1 s.size).data.toList).1, (As.numR (s.extract 1 s.size).data.toList).2 && decide (0 ≤ (As.numR (s.extract 1 s.size).data.toList).1) && decide ((As.numR (s.extract 1 s.size).data.toList).1 ≤ 15)) := by
      unfold As.regR
      rw [if_neg (by rw [hh, h82]; simp; omega), hT]
    rw [hR]
    have hN := fun w => rnumber_any (s.extract 1 s.size) w (by simp [ByteArray.size_extract]; omega)
    generalize As.numR (s.extract 1 s.size).data.toList = r at *
    obtain ⟨z, b⟩ := r
    exact rreg_at s _ z b _ w hs rfl (by omega) (by rw [h82]; rfl) (by rw [h82]; rfl) (Lib.hid hN) (Lib.hid rfl)
  · have hR : As.regR s.data.toList = (0, false) := by unfold As.regR; rw [if_pos (.inr (by rw [hh]; simpa using h82))]
    rw [hR]
    have hn : ((s[0].toNat : Nat) : Int) ≠ 82 := fun e => h82 (UInt8.toNat_inj.1 (by have e2 : (82 : UInt8).toNat = 82 := rfl
                                                                                     omega))
    exact rreg_other s w hs (by omega) (by rw [beq_eq_false_iff_ne]; exact hn) (by simpa using hn)
end Go.Proofs.YtcckbmmjklahfaaGreatDoor
