/- The walks of arith's other functions and of the document's answer to them (ref20, ref12's relations and set operations). Conditions: words lie in their bounds; texts are shorter than 2 to the 32nd. -/
import Derived.Test.YthcpedonpiihnaaArithW
import Derived.Test.YthcpedonpiihnaaShelf
namespace Go.Proofs.Ythcpedonpiihnaa
set_option linter.unusedSimpArgs false
set_option linter.unusedVariables false
open Go.RowKit
theorem holds_any (op : ByteArray) (n : Int) (w : World) :
    Calls Try.prog 65 #[.string op, .int .i64 n] w fun e w' => e = .returned (Sp.two (Sp.rel op.toList n)) ∧ w = w' := by
  go_enter Try.func65, Try.ntmps65
  go_wp2
  all_goals
    go_ret2
    exact ⟨by simp [Sp.two, Sp.rel, *], rfl⟩
theorem rrelate_any (op : ByteArray) (n : Int) (w : World) :
    Calls Try.prog 59 #[.string op, .int .i64 n] w fun e w' => e = .returned (Sp.two (Sp.rel op.toList n)) ∧ w = w' := by
  go_enter Try.func59, Try.ntmps59
  go_wp2
  all_goals
    go_ret2
    exact ⟨by simp [Sp.two, Sp.rel, *], rfl⟩
theorem set_any (op : ByteArray) (a b : Int) (w : World) :
    Calls Try.prog 36 #[.string op, .int .u32 a, .int .u32 b] w fun e w' => e = .returned (Sp.wb (Sp.setop op.toList a b)) ∧ w = w' := by
  go_enter Try.func36, Try.ntmps36
  go_wp2
  all_goals
    go_ret2
    exact ⟨by simp [Sp.wb, Sp.setop, *], rfl⟩
theorem rsetop_any (op : ByteArray) (a b : Int) (w : World) :
    Calls Try.prog 61 #[.string op, .int .u32 a, .int .u32 b] w fun e w' => e = .returned (Sp.wb (Sp.setop op.toList a b)) ∧ w = w' := by
  go_enter Try.func61, Try.ntmps61
  go_wp2
  all_goals
    go_ret2
    exact ⟨by simp [Sp.wb, Sp.setop, *], rfl⟩
theorem rset_any (op : ByteArray) (a b : Int) (w : World) :
    Calls Try.prog 37 #[.string op, .int .u32 a, .int .u32 b] w fun e w' => e = .returned (Sp.wb (Sp.setop op.toList a b)) ∧ w = w' := by
  go_enter Try.func37, Try.ntmps37
  go_wp2_with (go_at_call 61; refine (rsetop_any _ _ _ _).mono ?_; rintro e w' ⟨rfl, rfl⟩)
  go_ret2
  exact ⟨rfl, rfl⟩
theorem relate_any (op : ByteArray) (a b : Int) (w : World) :
    Calls Try.prog 29 #[.string op, .int .i64 a, .int .i64 b] w fun e w' => e = .returned (Sp.two (Sp.rel op.toList (Sp.sgn (a % 4294967296) - Sp.sgn (b % 4294967296)))) ∧ w = w' := by
  have hsa := Sp.sgn_bd (a % 4294967296) (by omega) (by omega)
  have hsb := Sp.sgn_bd (b % 4294967296) (by omega) (by omega)
  go_enter Try.func29, Try.ntmps29
  go_wp2_with (first | (go_at_call 69; refine (round_any _ _).mono ?_; rintro e w' ⟨rfl, rfl⟩) | (go_at_call 65; refine (holds_any _ _ _).mono ?_; rintro e w' ⟨rfl, rfl⟩))
  go_ret2
  exact ⟨rfl, rfl⟩
theorem rwrap_any (n : Int) (w : World) :
    Calls Try.prog 79 #[.int .i64 n] w fun e w' => e = .returned (.int .i64 (Sp.sgn (n % 4294967296))) ∧ w = w' := by
  go_enter Try.func79, Try.ntmps79
  go_wp2_with (first | (go_at_call 76; refine (rword_any _ _).mono ?_; rintro e w' ⟨rfl, rfl⟩) | (go_at_call 77; refine (rsigned_any _ _ (by omega) (by omega)).mono ?_; rintro e w' ⟨rfl, rfl⟩))
  go_ret
  exact ⟨rfl, rfl⟩
theorem rrel_sgn (op : List UInt8) (a b : Int) : (a < b → Sp.rel op (-1) = Sp.rel op (a - b)) ∧ (b < a → Sp.rel op 1 = Sp.rel op (a - b)) ∧ (a = b → Sp.rel op 0 = Sp.rel op (a - b)) := by
  refine ⟨fun h => ?_, fun h => ?_, fun h => ?_⟩
  · have h1 : (a - b == 0) = false := by simp; omega
    have h2 : (a - b != 0) = true := by simp; omega
    have h3 : decide (a - b < 0) = true := by simp; omega
    have h4 : decide (a - b ≤ 0) = true := by simp; omega
    have h5 : decide (0 < a - b) = false := by simp; omega
    have h6 : decide (0 ≤ a - b) = false := by simp; omega
    unfold Sp.rel; rw [h1, h2, h3, h4, h5, h6]; rfl
  · have h1 : (a - b == 0) = false := by simp; omega
    have h2 : (a - b != 0) = true := by simp; omega
    have h3 : decide (a - b < 0) = false := by simp; omega
    have h4 : decide (a - b ≤ 0) = false := by simp; omega
    have h5 : decide (0 < a - b) = true := by simp; omega
    have h6 : decide (0 ≤ a - b) = true := by simp; omega
    unfold Sp.rel; rw [h1, h2, h3, h4, h5, h6]; rfl
  · rw [h, Int.sub_self]
theorem rrelate20_any (op : ByteArray) (a b : Int) (w : World) :
    Calls Try.prog 30 #[.string op, .int .i64 a, .int .i64 b] w fun e w' => e = .returned (Sp.two (Sp.rel op.toList (Sp.sgn (a % 4294967296) - Sp.sgn (b % 4294967296)))) ∧ w = w' := by
  have H := Lib.hid (rrel_sgn op.toList (Sp.sgn (a % 4294967296)) (Sp.sgn (b % 4294967296)))
  go_enter Try.func30, Try.ntmps30
  go_wp2_with (first | (go_at_call 79; refine (rwrap_any _ _).mono ?_; rintro e w' ⟨rfl, rfl⟩) | (go_at_call 59; refine (rrelate_any _ _ _).mono ?_; rintro e w' ⟨rfl, rfl⟩))
  · go_ret2
    exact ⟨by rw [← H.out.1 ‹_›]; rfl, rfl⟩
  · go_ret2
    exact ⟨by rw [← H.out.2.1 ‹_›]; rfl, rfl⟩
  · go_ret2
    exact ⟨by rw [← H.out.2.2 (by omega)]; rfl, rfl⟩
theorem bytes_eta (s : ByteArray) : (⟨s.data.toList.toArray⟩ : ByteArray) = s := by cases s; simp
/-- 's[:i]' at the first 0 -/
theorem cut_take (l : List UInt8) (o : Nat) (h : Lib.indexByte l 0 = o) : l.take o = Sp.cut0 l := by
  induction l generalizing o with
  | nil => simp [Lib.indexByte] at h
  | cons b l ih =>
    unfold Lib.indexByte at h
    unfold Sp.cut0
    split at h
    · rename_i hb
      have hb := eq_of_beq hb
      subst hb
      obtain rfl : o = 0 := by omega
      simp
    · rename_i hb
      have hb' : (b != 0) = true := by simpa using hb
      rw [List.takeWhile_cons, if_pos hb']
      split at h
      · omega
      · have hge := Lib.indexByte_ge l 0
        rename_i h1
        have h1' : Lib.indexByte l 0 ≠ -1 := by simpa using h1
        obtain ⟨m, rfl⟩ : ∃ m, o = m + 1 := ⟨o - 1, by omega⟩
        rw [List.take_succ_cons, ih m (by omega)]
        rfl
theorem cut_none (l : List UInt8) (h : Lib.indexByte l 0 = -1) : Sp.cut0 l = l := by
  have h1 := Lib.indexByte_none h
  have h2 : ∀ x ∈ l, (x != 0) = true := by
    intro x hx
    obtain ⟨k, hk, he⟩ := List.getElem_of_mem hx
    have := h1 k
    rw [List.getElem?_eq_getElem hk, he] at this
    simpa using this
  clear h h1
  unfold Sp.cut0
  induction l with
  | nil => rfl
  | cons b l ih => rw [List.takeWhile_cons, if_pos (h2 b (List.mem_cons_self ..)), ih fun x hx => h2 x (List.mem_cons_of_mem _ hx)]
theorem indexByte_lt (l : List UInt8) (c : UInt8) : Lib.indexByte l c < l.length + 1 := by
  by_cases h : Lib.indexByte l c < 0
  · omega
  · obtain ⟨o, ho⟩ := Int.eq_ofNat_of_zero_le (show 0 ≤ Lib.indexByte l c by omega)
    have := (Lib.indexByte_some ho).1
    have := (List.getElem?_eq_some_iff.1 this).1
    omega
theorem indexByte_lt' (l : List UInt8) (c : UInt8) (o : Nat) (h : Lib.indexByte l c = o) : o < l.length := by
  have := (Lib.indexByte_some h).1
  exact (List.getElem?_eq_some_iff.1 this).1
theorem bytes_ext {a b : ByteArray} (h : a.data.toList = b.data.toList) : a = b := by
  cases a; cases b
  simp only [ByteArray.mk.injEq]
  exact Array.toList_inj.1 h
theorem extract_take (s : ByteArray) (o : Nat) : s.extract 0 o = ⟨(s.data.toList.take o).toArray⟩ := by
  apply bytes_ext
  have := Lib.extract_toList s 0 o
  rw [ByteArray.toList_eq] at this
  rw [this]; simp
theorem cut1_any (s : ByteArray) (w : World) (hs : s.size < 4294967281) :
    Calls Try.prog 126 #[.string s, .string ⟨#[0]⟩] w fun e w' => (∃ x y, e = .returned (.tuple #[.string ⟨(Sp.cut0 s.data.toList).toArray⟩, x, y])) ∧ ∃ n, w' = w.drewN n := by
  have hge := Lib.indexByte_ge s.data.toList 0
  have hlt := indexByte_lt s.data.toList 0
  by_cases hi : Lib.indexByte s.data.toList 0 < 0
  · have hc := Lib.hid (cut_none s.data.toList (by omega))
    go_enter Try.func126, Try.ntmps126
    go_wp2_with (go_at_call 127; refine (Try.stringslite_Index_one _ _ _).mono ?_; rintro e w' ⟨rfl, rfl⟩)
    go_ret3
    exact ⟨⟨_, _, by rw [hc.out, bytes_eta]; rfl⟩, 0, rfl⟩
  · obtain ⟨o, ho⟩ := Int.eq_ofNat_of_zero_le (show 0 ≤ Lib.indexByte s.data.toList 0 by omega)
    have hc := Lib.hid (cut_take s.data.toList o ho)
    have hl := indexByte_lt' _ _ _ ho
    have hl2 : o < s.size := by simpa using hl
    clear hi hge hlt hl
    go_enter Try.func126, Try.ntmps126
    go_wp2_with (go_at_call 127; refine (Try.stringslite_Index_one _ _ _).mono ?_; rintro e w' ⟨rfl, rfl⟩)
    go_quiet (fail)
    go_wp2
    go_ret3
    exact ⟨⟨_, _, by rw [← hc.out, ← extract_take]; rfl⟩, _, rfl⟩
theorem text_any (s : ByteArray) (w : World) (hs : s.size < 4294967281) :
    Calls Try.prog 67 #[.string s] w fun e w' => e = .returned (.string ⟨(Sp.cut0 s.data.toList).toArray⟩) ∧ ∃ n, w' = w.drewN n := by
  go_enter Try.func67, Try.ntmps67
  go_wp2_with (first | (go_at_call 120; go_in) | (go_at_call 126; refine (cut1_any _ _ hs).mono ?_; rintro e w' ⟨⟨x, y, rfl⟩, n, rfl⟩))
  go_ret
  exact ⟨rfl, _, rfl⟩
/-- the comparison by operators is the three-way one -/
theorem less_cmp : ∀ (a b : List UInt8), (Op.bytesLess a b = true ↔ Lib.compareBytes a b = -1) ∧ (Op.bytesLess b a = true ↔ Lib.compareBytes a b = 1) ∧ (Lib.compareBytes a b = -1 ∨ Lib.compareBytes a b = 0 ∨ Lib.compareBytes a b = 1) ∧ (Lib.compareBytes a b = 0 ↔ a = b)
  | [], [] => by simp [Op.bytesLess, Lib.compareBytes]
  | [], _ :: _ => by simp [Op.bytesLess, Lib.compareBytes]
  | _ :: _, [] => by simp [Op.bytesLess, Lib.compareBytes]
  | x :: a, y :: b => by
    obtain ⟨h1, h2, h3, h4⟩ := less_cmp a b
    unfold Op.bytesLess Lib.compareBytes
    by_cases hxy : x < y
    · have hyx : ¬ y < x := fun h => absurd (UInt8.lt_trans hxy h) (UInt8.lt_irrefl x)
      have hne : ¬ x = y := fun h => by subst h; exact UInt8.lt_irrefl x hxy
      have hne' : ¬ y = x := fun h => hne h.symm
      simp [hxy, hyx, hne, hne']
    · by_cases hyx : y < x
      · have hne : ¬ x = y := fun h => by subst h; exact UInt8.lt_irrefl x hyx
        have hne' : ¬ y = x := fun h => hne h.symm
        simp [hxy, hyx, hne, hne']
      · have he : x = y := UInt8.le_antisymm (UInt8.not_lt.1 hyx) (UInt8.not_lt.1 hxy)
        subst he
        simp only [hxy, if_false]
        simp [UInt8.lt_irrefl, h1, h2, h4]
        rcases h3 with h | h | h
        · exact .inl h
        · exact .inr (.inl (h4.1 h))
        · exact .inr (.inr h)
theorem cut0_all (l : List UInt8) (h : ∀ x ∈ l, x ≠ 0) : Sp.cut0 l = l := by
  unfold Sp.cut0
  induction l with
  | nil => rfl
  | cons b l ih => rw [List.takeWhile_cons, if_pos (by simpa using h b (List.mem_cons_self ..)), ih fun x hx => h x (List.mem_cons_of_mem _ hx)]
theorem cut0_at (l : List UInt8) (k : Nat) (hk : k < l.length) (h : ∀ x ∈ l.take k, x ≠ 0) (hz : l[k] = 0) : l.take k = Sp.cut0 l := by
  induction l generalizing k with
  | nil => simp at hk
  | cons b l ih =>
    unfold Sp.cut0
    cases k with
    | zero =>
      simp at hz
      subst hz
      simp
    | succ k =>
      rw [List.take_succ_cons] at h ⊢
      rw [List.takeWhile_cons, if_pos (by simpa using h b (List.mem_cons_self ..)), ih k (by simpa using hk) (fun x hx => h x (List.mem_cons_of_mem _ hx)) (by simpa using hz)]
      rfl
theorem take_all (s : ByteArray) (k : Nat) (hk : k < s.size) (h : ∀ x ∈ s.data.toList.take k, x ≠ 0) (hz : ((s[k].toNat : Int) == 0) = false) : ∀ x ∈ s.data.toList.take (k + 1), x ≠ 0 := by
  rw [List.take_succ_eq_append_getElem (by simpa using hk)]
  intro x hx
  rcases List.mem_append.1 hx with hx | hx
  · exact h x hx
  · simp at hx
    subst hx
    intro h0
    have : s[k] = 0 := h0
    rw [this] at hz
    simp at hz
theorem End_any (s : ByteArray) (w : World) (hs : s.size < 4294967281) :
    Calls Try.prog 68 #[.string s] w fun e w' => e = .returned (.string ⟨(Sp.cut0 s.data.toList).toArray⟩) ∧ w = w' := by
  go_enter Try.func68, Try.ntmps68
  go_wp2
  go_loop [3] (fun i => ∃ k : Nat, k ≤ s.size ∧ i = .int .i64 k ∧ Hid (∀ x ∈ s.data.toList.take k, x ≠ 0)) (fun i => s.size - (intOf i).toNat)
  case atStart => exact ⟨0, Nat.zero_le _, rfl, Lib.hid (by simp)⟩
  case round =>
    obtain ⟨k, hk, rfl, HZ⟩ := hrel
    by_cases hlt : k < s.size
    · by_cases hz : ((s[k].toNat : Int) == 0) = true
      · go_wp2
        go_ret
        have hz' : s.data.toList[k]'(by simpa using hlt) = 0 := by
          have : s[k].toNat = 0 := by simpa using hz
          exact UInt8.toNat_inj.1 this
        exact ⟨by rw [← cut0_at _ k (by simpa using hlt) HZ.out hz', ← extract_take]; rfl, rfl⟩
      · have hz2 : ((s[k].toNat : Int) == 0) = false := by simpa using hz
        clear hz
        have HN := Lib.hid (take_all s k hlt HZ.out hz2)
        go_wp2
        go_round
        case rel => exact ⟨k + 1, by omega, by go_num, HN⟩
        case measure => simp [intOf]; omega
    · go_wp2
      go_ret
      exact ⟨by rw [cut0_all _ (by have h := HZ.out; rwa [List.take_of_length_le (by simp; omega)] at h), bytes_eta]; rfl, rfl⟩
theorem texts_any (op a b : ByteArray) (w : World) (ha : a.size < 4294967281) (hb : b.size < 4294967281) :
    Calls Try.prog 25 #[.string op, .string a, .string b] w fun e w' => e = .returned (Sp.two (Sp.rel op.toList (Lib.compareBytes (Sp.cut0 a.data.toList) (Sp.cut0 b.data.toList)))) ∧ ∃ n, w' = w.drewN n := by
  go_enter Try.func25, Try.ntmps25
  go_wp2_with (first | (go_at_call 67; refine (text_any _ _ (by assumption)).mono ?_; rintro e w' ⟨rfl, n, rfl⟩) | (go_at_call 66; refine (Try.strings_Compare _ _ _).mono ?_; rintro e w' ⟨rfl, rfl⟩) | (go_at_call 65; refine (holds_any _ _ _).mono ?_; rintro e w' ⟨rfl, rfl⟩))
  go_ret2
  exact ⟨rfl, _, rfl⟩
theorem rtexts_any (op a b : ByteArray) (w : World) (ha : a.size < 4294967281) (hb : b.size < 4294967281) :
    Calls Try.prog 26 #[.string op, .string a, .string b] w fun e w' => e = .returned (Sp.two (Sp.rel op.toList (Lib.compareBytes (Sp.cut0 a.data.toList) (Sp.cut0 b.data.toList)))) ∧ w = w' := by
  have H := Lib.hid (less_cmp (Sp.cut0 a.data.toList) (Sp.cut0 b.data.toList))
  go_enter Try.func26, Try.ntmps26
  go_wp2_with (first | (go_at_call 68; refine (End_any _ _ (by assumption)).mono ?_; rintro e w' ⟨rfl, rfl⟩) | (go_at_call 59; refine (rrelate_any _ _ _).mono ?_; rintro e w' ⟨rfl, rfl⟩))
  · have h := H.out.1.1 ‹_›
    go_ret2
    exact ⟨by rw [h]; rfl, rfl⟩
  · rename_i h1 h2
    have h : Lib.compareBytes (Sp.cut0 a.data.toList) (Sp.cut0 b.data.toList) = 1 := by
      rcases H.out.2.2.1 with h | h | h
      · rw [H.out.1.2 h] at h1; cases h1
      · have := H.out.2.2.2.1 h; rw [this] at h2; simp at h2
      · exact h
    go_ret2
    exact ⟨by rw [h]; rfl, rfl⟩
  · rename_i h1 h2
    have h : Lib.compareBytes (Sp.cut0 a.data.toList) (Sp.cut0 b.data.toList) = 0 := H.out.2.2.2.2 (by simpa using h2)
    go_ret2
    exact ⟨by rw [h]; rfl, rfl⟩
theorem u64_tmod (n : Int) : (IntKind.u64.wrap n).tmod 32 = n % 32 := by
  have h : IntKind.u64.wrap n = n % 18446744073709551616 := by simp [IntKind.wrap, IntKind.bits, IntKind.signed]
  rw [h, Int.tmod_eq_emod_of_nonneg (by omega)]; omega
theorem elem_and (s : Int) (k : Nat) (h : k < 32) (hs : 0 ≤ s) (hs1 : s < 4294967296) : Sp.get s k 1 = s / 2 ^ k % 2 := by
  unfold Sp.get Sp.mayB
  rw [if_pos (by simp; omega)]; simp
theorem and_one (x : Int) (h0 : 0 ≤ x) (h1 : x < 4294967296) : bits .and .u32 x 1 = x % 2 := by
  rw [u32_and _ _ h0 h1 (by omega) (by omega)]
  obtain ⟨n, rfl⟩ := Int.eq_ofNat_of_zero_le h0
  simp
theorem elem_any (n s : Int) (w : World) (hs : 0 ≤ s) (hs1 : s < 4294967296) :
    Calls Try.prog 38 #[.int .i64 n, .int .u32 s] w fun e w' => e = .returned (.bool (Sp.elem n s)) ∧ w = w' := by
  obtain ⟨k, hk⟩ := Int.eq_ofNat_of_zero_le (show 0 ≤ n % 32 by omega)
  have hm := u64_tmod n
  rw [hk] at hm
  have he := Lib.hid (elem_and s k (by omega) hs hs1)
  have HK := Lib.hid hk
  have h32 : k < 32 := by omega
  clear hk
  go_enter Try.func38, Try.ntmps38
  go_wp2
  go_ret
  exact ⟨ret_bool (by rw [Sp.elem, HK.out, he.out, and_one _ (Int.ediv_nonneg hs (by have := Sp.pow_bd k (by omega); omega)) (by have := Int.ediv_le_self (2 ^ k) hs; omega)]), rfl⟩
theorem relem_any (n s : Int) (w : World) (hs : 0 ≤ s) (hs1 : s < 4294967296) :
    Calls Try.prog 39 #[.int .i64 n, .int .u32 s] w fun e w' => e = .returned (.bool (Sp.elem n s)) ∧ ∃ m, w' = w.drewN m := by
  go_enter Try.func39, Try.ntmps39
  go_wp2_with (first | (go_at_call 76; refine (rword_any _ _).mono ?_; rintro e w' ⟨rfl, rfl⟩) | (go_at_call 57; refine (get_any _ _ _ _ (by assumption) (by assumption)).mono ?_; rintro e w' ⟨rfl, n, rfl⟩))
  go_ret
  exact ⟨rfl, _, rfl⟩
theorem range_any (a b : Int) (w : World) :
    Calls Try.prog 40 #[.int .i64 a, .int .i64 b] w fun e w' => e = .returned (.int .u32 (Sp.ones (Sp.sgn (a % 4294967296)) (Sp.sgn (b % 4294967296)) 32)) ∧ w = w' := by
  have hsa := Sp.sgn_bd (a % 4294967296) (by omega) (by omega)
  have hsb := Sp.sgn_bd (b % 4294967296) (by omega) (by omega)
  generalize hX : Sp.sgn (a % 4294967296) = x at *
  generalize hY : Sp.sgn (b % 4294967296) = y at *
  have HX := Lib.hid hX; clear hX
  have HY := Lib.hid hY; clear hY
  go_enter Try.func40, Try.ntmps40
  go_wp2_with (go_at_call 69; refine (round_any _ _).mono ?_; first | (rw [HX.out]; rintro e w' ⟨rfl, rfl⟩) | (rw [HY.out]; rintro e w' ⟨rfl, rfl⟩))
  obtain ⟨p, hp0, hp1, hp2, hp3⟩ : ∃ p : Nat, max x 0 = p ∧ x ≤ p ∧ p < 2147483648 ∧ (x ≤ 0 → p = 0) := ⟨(max x 0).toNat, by omega, by omega, by omega, by omega⟩
  have hp4 : 0 < x → (p : Int) = x := by omega
  obtain ⟨q, hq0, hq1, hq2, hq3⟩ : ∃ q : Int, min y 31 = q ∧ q ≤ y ∧ q ≤ 31 ∧ (y ≤ 31 → q = y) := ⟨min y 31, rfl, by omega, by omega, by omega⟩
  have hq4 : 31 < y → q = 31 := by omega
  have hq5 : -2147483648 ≤ q := by omega
  rw [hp0, hq0]
  have HP := Lib.hid hp0; have HQ := Lib.hid hq0; have HP3 := Lib.hid hp3; have HP4 := Lib.hid hp4; have HQ3 := Lib.hid hq3; have HQ4 := Lib.hid hq4
  clear hp0 hq0 hp3 hp4 hq3 hq4
  go_loop [0, 5] (fun i s => ∃ k : Nat, p ≤ k ∧ (k : Int) < 2147483649 ∧ i = .int .i64 k ∧ s = .int .u32 (Sp.ones x y (min k 32))) (fun i _ => 32 - (intOf i).toNat)
  case atStart =>
    refine ⟨p, Nat.le_refl _, by omega, rfl, ?_⟩
    rw [Sp.ones_const x y 0 (min p 32) (by omega) (fun j _ h2 => by have := HP3.out; have := HP4.out; omega)]
    rfl
  case round =>
    obtain ⟨k, hk, hk2, rfl, rfl⟩ := hrel
    by_cases hlt : (k : Int) ≤ q
    · have h32 : k < 32 := by omega
      have hm : min k 32 = k := by omega
      rw [hm]
      obtain ⟨o0, o1⟩ := Sp.ones_bd x y k
      have hpw := Sp.pow_bd k (by omega)
      have hpw2 := Sp.pow_lt k h32
      have hor := Sp.or_pow _ k h32 o0 o1
      have HM := Lib.hid hm
      clear hm
      go_wp2
      go_round
      case rel => exact ⟨k + 1, by omega, by omega, by go_num, by rw [show min (k + 1) 32 = k + 1 from by omega, Sp.ones, if_pos ⟨by omega, by omega⟩]⟩
      case measure => simp [intOf]; omega
    · have HF := Lib.hid (Sp.ones_const x y (min k 32) 32 (by omega) (fun j h1 h2 => by have := HQ3.out; have := HQ4.out; omega))
      go_wp2
      go_ret
      exact ⟨ret_int HF.out.symm, rfl⟩
theorem put_one (lo hi : Int) (k : Nat) (hk : k < 32) : Sp.put (Sp.ones lo hi k) k 1 1 = Sp.ones lo hi k + 2 ^ k := by
  obtain ⟨h0, h1⟩ := Sp.ones_bd lo hi k
  have hp := Sp.pow_bd k (by omega)
  have hq : (2:Int) ^ k ≤ 2147483648 := by
    clear hp h1 h0
    revert k; decide
  unfold Sp.put Sp.get Sp.mayB
  rw [if_pos (by simp; omega), if_pos (by simp; omega)]
  simp only [Int.toNat_natCast]
  rw [Int.ediv_eq_zero_of_lt h0 h1]
  simp
  omega
theorem rrange_any (a b : Int) (w : World) :
    Calls Try.prog 41 #[.int .i64 a, .int .i64 b] w fun e w' => e = .returned (.int .u32 (Sp.ones (Sp.sgn (a % 4294967296)) (Sp.sgn (b % 4294967296)) 32)) ∧ ∃ m, w' = w.drewN m := by
  have hsa := Sp.sgn_bd (a % 4294967296) (by omega) (by omega)
  have hsb := Sp.sgn_bd (b % 4294967296) (by omega) (by omega)
  generalize hX : Sp.sgn (a % 4294967296) = x at *
  generalize hY : Sp.sgn (b % 4294967296) = y at *
  have HX := Lib.hid hX; clear hX
  have HY := Lib.hid hY; clear hY
  go_enter Try.func41, Try.ntmps41
  go_wp2
  go_loopw [5, 6] (fun s i wr => ∃ k m : Nat, k ≤ 32 ∧ i = .int .i64 k ∧ s = .int .u32 (Sp.ones x y k) ∧ wr = w.drewN m) (fun _ i _ => 32 - (intOf i).toNat)
  case atStart => exact ⟨0, 0, by omega, rfl, rfl, rfl⟩
  case round =>
    obtain ⟨k, m, hk, rfl, rfl, rfl⟩ := hrel
    obtain ⟨o0, o1⟩ := Sp.ones_bd x y k
    have hp := Sp.pow_bd k (by omega)
    by_cases hlt : k < 32
    · by_cases hin : x ≤ k ∧ (k : Int) ≤ y
      · have hpo := put_one x y k hlt
        obtain ⟨hi1, hi2⟩ := hin
        go_wp2_with (first | (go_at_call 79; refine (rwrap_any _ _).mono ?_; first | (rw [HX.out]; rintro e w' ⟨rfl, rfl⟩) | (rw [HY.out]; rintro e w' ⟨rfl, rfl⟩)) | (go_at_call 64; refine (put_any _ _ _ _ _ (by omega) (by omega) (by omega) (by omega)).mono ?_; rintro e w' ⟨rfl, n, rfl⟩))
        go_roundw
        case rel => exact ⟨k + 1, _, by omega, by go_num, by rw [Sp.ones, if_pos ⟨hi1, hi2⟩], rfl⟩
        case measure => simp [intOf]; omega
      · have HIN := Lib.hid hin
        by_cases hi1 : x ≤ k
        all_goals
          clear hin
          go_wp2_with (first | (go_at_call 79; refine (rwrap_any _ _).mono ?_; first | (rw [HX.out]; rintro e w' ⟨rfl, rfl⟩) | (rw [HY.out]; rintro e w' ⟨rfl, rfl⟩)) | (go_at_call 64; refine (put_any _ _ _ _ _ (by omega) (by omega) (by omega) (by omega)).mono ?_; rintro e w' ⟨rfl, n, rfl⟩))
          all_goals first
            | (exfalso; exact HIN.out ⟨by omega, by omega⟩)
            | (go_roundw
               case rel => exact ⟨k + 1, _, by omega, by go_num, by rw [Sp.ones, if_neg HIN.out, Int.add_zero], rfl⟩
               case measure => simp [intOf]; omega)
    · obtain rfl : k = 32 := by omega
      go_wp2
      go_ret
      exact ⟨rfl, _, rfl⟩
end Go.Proofs.Ythcpedonpiihnaa
