/- The walk of the library's inner ParseUint at base 16 and size 32. Conditions: the text is not empty and has digits of that base alone. The walk of the library's inner ParseUint at base 16 and size 8. Conditions: the text is not empty and has digits of that base alone. The walk of the library's inner ParseUint at base 10 and size 31. Conditions: the text is not empty and has digits of that base alone. -/
import Derived.Test.YtcoakhahjdnlfaaDoorTokL
import Derived.Lib.ConvBytes
import Derived.Lib.Walk
import Derived.Lib.AtoiErrMem
import Derived.Laws.Strings3
import Derived.Laws.BitsAllLaws
import Derived.BigCall
import Derived.BigGuard
namespace Go.Proofs.YtcoakhahjdnlfaaDoor
set_option linter.all false
open Go.RowKit
theorem lower_hex1 (c : Nat) (w : World) (h1 : 65 ≤ c) (h2 : c ≤ 70) :
    Calls Tryd.prog 115 #[.int .u8 (c : Int)] w fun e w' => e = .returned (.int .u8 ((c : Int) + 32)) ∧ w' = w := by
  have hb : bits .or .u8 (c : Int) 32 = (c : Int) + 32 := by
    have := u8_or_nat c 32 (by omega) (by omega)
    rw [Tk.low_letter h1 h2] at this
    simpa using this
  go_enter Tryd.func115, Tryd.ntmps115
  go_wp2
  go_ret
  exact ⟨rfl, rfl⟩
set_option maxHeartbeats 32000000 in
set_option maxRecDepth 100000 in
theorem puin_16_32 (t : ByteArray) (hne : t.size ≠ 0) (hmax : t.size < 4294967281) (hd : ∀ c ∈ t.data.toList, Tk.hexa c = true) (w : World) :
    Calls Tryd.prog 94 #[.string t, .int .i64 16, .int .i64 32] w fun e w' =>
      ((Tk.val 16 t.data.toList ≤ 4294967295 ∧ e = .returned (.tuple #[.int .u64 (Tk.val 16 t.data.toList), .nilIface])) ∨ (4294967295 < Tk.val 16 t.data.toList ∧ e = .returned (.tuple #[.int .u64 4294967295, .iface 162 (.int .i64 1)]))) ∧ ∃ g, w' = more w g := by
  have hemp : t.toList.isEmpty = false := by
    rw [← decide_eq_emptyBytes]
    exact decide_eq_false (fun h => hne (by rw [h]; rfl))
  have hcv := Lib.run_convert_string_bytes (P := Tryd.prog) w 9 31 5 t (u := .string) Tryd.underlying9 Tryd.underlying31 Tryd.underlying5
  have hB : ∀ j, j < t.size → (Lib.bytesWorld w 5 t).cell? ⟨w.heap.size, j, none⟩ = some (.int .u8 (t.data.toList.getD j 0).toNat) := fun j hj => Lib.bytesWorld_cell w 5 t j hj
  have hbel : Below w.heap.size w (Lib.bytesWorld w 5 t) := Lib.bytesWorld_below _ _ _
  obtain ⟨W1, hW1⟩ : ∃ W1, W1 = Lib.bytesWorld w 5 t := ⟨_, rfl⟩
  rw [← hW1] at hcv hB hbel
  have hend := Lib.hid (more_of_below hbel)
  clear hW1 hbel
  obtain ⟨bs, hL⟩ : ∃ bs, bs = t.data.toList := ⟨_, rfl⟩
  have hLn : bs.length = t.size := by rw [hL]; simp
  rw [← hL] at hB hd ⊢
  clear hL
  replace hB := Lib.hid hB
  replace hd := Lib.hid hd
  have hmv : IntKind.u64.wrap (IntKind.u64.wrap (4294967295 + 1) - 1) = 4294967295 := by
    rw [IntKind.wrap_u64, IntKind.wrap_u64]
    decide
  simp only [Int.reduceAdd] at hmv
  go_enter Tryd.func94, Tryd.ntmps94
  go_wp2
  go_loop [12, 13, 101] (fun vu vn vi => ∃ (k acc : Nat) (a : Int), vu = .bool false ∧ vn = .int .u64 a ∧ vi = .int .i64 k ∧ k ≤ t.size ∧ Hid (a = (acc : Int) ∧ acc ≤ 4294967295 ∧ Tk.val 16 bs = Tk.va 16 acc (bs.drop k)))
    (fun _ _ vi => t.size - (intOf vi).toNat)
  case atStart => exact ⟨0, 0, 0, rfl, rfl, rfl, by omega, rfl, by omega, rfl⟩
  case round =>
    obtain ⟨k, acc, a, rfl, rfl, rfl, hk, hh⟩ := hrel
    obtain ⟨ha, hacc, hdec⟩ := hh.out
    clear hh
    have a0 : 0 ≤ a := by omega
    have a1 : a ≤ 4294967295 := by omega
    by_cases hkn : k < t.size
    · have hc := hB.out k hkn
      have hdrop : bs.drop k = bs[k]'(by omega) :: bs.drop (k + 1) := List.drop_eq_getElem_cons (by omega)
      have hget : bs.getD k 0 = bs[k]'(by omega) := by simp [List.getD, List.getElem?_eq_getElem (show k < bs.length by omega)]
      have hdc := hd.out (bs[k]'(by omega)) (List.getElem_mem _)
      rw [hdrop, Tk.va_cons] at hdec
      rw [hget] at hc
      generalize bs[k]'(by omega) = c at hc hdec hdc
      have hc256 : c.toNat < 256 := c.toNat_lt
      have b95 : ((c.toNat : Int) == 95) = false := by
        have := Tk.hexa_le hdc
        simp; omega
      clear hdrop hget
      rcases Tk.hexa_cases hdc with ⟨hd0, hd1, hdg⟩ | ⟨hd0, hd1, hdg⟩
      · by_cases hov : 4294967295 < acc * 16 + (c.toNat - 48)
        · have HF := Lib.hid (show 4294967295 < Tk.val 16 bs by rw [hdec]; exact Tk.va_range (by decide) (by rw [hdg]; exact hov))
          have iov : 4294967295 < a * 16 + ((c.toNat : Int) - 48) := by omega
          clear hdec hacc hov ha hdg
          go_wp2
          go_ret2
          exact ⟨.inr ⟨HF.out, rfl⟩, hend.out⟩
        · have HN : Hid (a * 16 + ((c.toNat : Int) - 48) = ((acc * 16 + (c.toNat - 48) : Nat) : Int) ∧ acc * 16 + (c.toNat - 48) ≤ 4294967295 ∧ Tk.val 16 bs = Tk.va 16 (acc * 16 + (c.toNat - 48)) (bs.drop (k + 1))) := Lib.hid ⟨by omega, by omega, by rw [← hdg]; exact hdec⟩
          have iov : a * 16 + ((c.toNat : Int) - 48) ≤ 4294967295 := by omega
          clear hdec hacc hov ha hdg
          go_wp2
          refine ⟨⟨k + 1, acc * 16 + (c.toNat - 48), a * 16 + ((c.toNat : Int) - 48), rfl, (by first | rfl | (congr 1; omega)), (by first | rfl | (congr 1; omega)), by omega, HN⟩, by simp [intOf]; omega⟩
      · by_cases hov : 4294967295 < acc * 16 + (c.toNat - 55)
        · have HF := Lib.hid (show 4294967295 < Tk.val 16 bs by rw [hdec]; exact Tk.va_range (by decide) (by rw [hdg]; exact hov))
          have iov : 4294967295 < a * 16 + ((c.toNat : Int) - 55) := by omega
          clear hdec hacc hov ha hdg
          go_wp2_with (go_at_call 115; refine (lower_hex1 _ _ hd0 hd1).mono ?_; rintro e w' ⟨rfl, rfl⟩)
          go_ret2
          exact ⟨.inr ⟨HF.out, rfl⟩, hend.out⟩
        · have HN : Hid (a * 16 + ((c.toNat : Int) - 55) = ((acc * 16 + (c.toNat - 55) : Nat) : Int) ∧ acc * 16 + (c.toNat - 55) ≤ 4294967295 ∧ Tk.val 16 bs = Tk.va 16 (acc * 16 + (c.toNat - 55)) (bs.drop (k + 1))) := Lib.hid ⟨by omega, by omega, by rw [← hdg]; exact hdec⟩
          have iov : a * 16 + ((c.toNat : Int) - 55) ≤ 4294967295 := by omega
          clear hdec hacc hov ha hdg
          go_wp2_with (go_at_call 115; refine (lower_hex1 _ _ hd0 hd1).mono ?_; rintro e w' ⟨rfl, rfl⟩)
          refine ⟨⟨k + 1, acc * 16 + (c.toNat - 55), a * 16 + ((c.toNat : Int) - 55), rfl, (by first | rfl | (congr 1; omega)), (by first | rfl | (congr 1; omega)), by omega, HN⟩, by simp [intOf]; omega⟩
    · have hkk : k = t.size := by omega
      subst hkk
      have hF : Tk.va 16 acc (bs.drop t.size) = acc := by rw [List.drop_eq_nil_of_le (by omega)]; rfl
      rw [hF] at hdec
      have HV := Lib.hid hdec
      have HA := Lib.hid ha
      have HM := Lib.hid hacc
      clear hdec hF ha hacc
      go_wp2
      go_ret2
      exact ⟨.inl ⟨by rw [HV.out]; exact HM.out, by rw [HV.out, ← HA.out]; rfl⟩, hend.out⟩
end Go.Proofs.YtcoakhahjdnlfaaDoor

namespace Go.Proofs.YtcoakhahjdnlfaaDoor
set_option linter.all false
open Go.RowKit
theorem lower_hex2 (c : Nat) (w : World) (h1 : 65 ≤ c) (h2 : c ≤ 70) :
    Calls Tryd.prog 115 #[.int .u8 (c : Int)] w fun e w' => e = .returned (.int .u8 ((c : Int) + 32)) ∧ w' = w := by
  have hb : bits .or .u8 (c : Int) 32 = (c : Int) + 32 := by
    have := u8_or_nat c 32 (by omega) (by omega)
    rw [Tk.low_letter h1 h2] at this
    simpa using this
  go_enter Tryd.func115, Tryd.ntmps115
  go_wp2
  go_ret
  exact ⟨rfl, rfl⟩
set_option maxHeartbeats 32000000 in
set_option maxRecDepth 100000 in
theorem puin_16_8 (t : ByteArray) (hne : t.size ≠ 0) (hmax : t.size < 4294967281) (hd : ∀ c ∈ t.data.toList, Tk.hexa c = true) (w : World) :
    Calls Tryd.prog 94 #[.string t, .int .i64 16, .int .i64 8] w fun e w' =>
      ((Tk.val 16 t.data.toList ≤ 255 ∧ e = .returned (.tuple #[.int .u64 (Tk.val 16 t.data.toList), .nilIface])) ∨ (255 < Tk.val 16 t.data.toList ∧ e = .returned (.tuple #[.int .u64 255, .iface 162 (.int .i64 1)]))) ∧ ∃ g, w' = more w g := by
  have hemp : t.toList.isEmpty = false := by
    rw [← decide_eq_emptyBytes]
    exact decide_eq_false (fun h => hne (by rw [h]; rfl))
  have hcv := Lib.run_convert_string_bytes (P := Tryd.prog) w 9 31 5 t (u := .string) Tryd.underlying9 Tryd.underlying31 Tryd.underlying5
  have hB : ∀ j, j < t.size → (Lib.bytesWorld w 5 t).cell? ⟨w.heap.size, j, none⟩ = some (.int .u8 (t.data.toList.getD j 0).toNat) := fun j hj => Lib.bytesWorld_cell w 5 t j hj
  have hbel : Below w.heap.size w (Lib.bytesWorld w 5 t) := Lib.bytesWorld_below _ _ _
  obtain ⟨W1, hW1⟩ : ∃ W1, W1 = Lib.bytesWorld w 5 t := ⟨_, rfl⟩
  rw [← hW1] at hcv hB hbel
  have hend := Lib.hid (more_of_below hbel)
  clear hW1 hbel
  obtain ⟨bs, hL⟩ : ∃ bs, bs = t.data.toList := ⟨_, rfl⟩
  have hLn : bs.length = t.size := by rw [hL]; simp
  rw [← hL] at hB hd ⊢
  clear hL
  replace hB := Lib.hid hB
  replace hd := Lib.hid hd
  have hmv : IntKind.u64.wrap (IntKind.u64.wrap (255 + 1) - 1) = 255 := by
    rw [IntKind.wrap_u64, IntKind.wrap_u64]
    decide
  simp only [Int.reduceAdd] at hmv
  go_enter Tryd.func94, Tryd.ntmps94
  go_wp2
  go_loop [12, 13, 101] (fun vu vn vi => ∃ (k acc : Nat) (a : Int), vu = .bool false ∧ vn = .int .u64 a ∧ vi = .int .i64 k ∧ k ≤ t.size ∧ Hid (a = (acc : Int) ∧ acc ≤ 255 ∧ Tk.val 16 bs = Tk.va 16 acc (bs.drop k)))
    (fun _ _ vi => t.size - (intOf vi).toNat)
  case atStart => exact ⟨0, 0, 0, rfl, rfl, rfl, by omega, rfl, by omega, rfl⟩
  case round =>
    obtain ⟨k, acc, a, rfl, rfl, rfl, hk, hh⟩ := hrel
    obtain ⟨ha, hacc, hdec⟩ := hh.out
    clear hh
    have a0 : 0 ≤ a := by omega
    have a1 : a ≤ 255 := by omega
    by_cases hkn : k < t.size
    · have hc := hB.out k hkn
      have hdrop : bs.drop k = bs[k]'(by omega) :: bs.drop (k + 1) := List.drop_eq_getElem_cons (by omega)
      have hget : bs.getD k 0 = bs[k]'(by omega) := by simp [List.getD, List.getElem?_eq_getElem (show k < bs.length by omega)]
      have hdc := hd.out (bs[k]'(by omega)) (List.getElem_mem _)
      rw [hdrop, Tk.va_cons] at hdec
      rw [hget] at hc
      generalize bs[k]'(by omega) = c at hc hdec hdc
      have hc256 : c.toNat < 256 := c.toNat_lt
      have b95 : ((c.toNat : Int) == 95) = false := by
        have := Tk.hexa_le hdc
        simp; omega
      clear hdrop hget
      rcases Tk.hexa_cases hdc with ⟨hd0, hd1, hdg⟩ | ⟨hd0, hd1, hdg⟩
      · by_cases hov : 255 < acc * 16 + (c.toNat - 48)
        · have HF := Lib.hid (show 255 < Tk.val 16 bs by rw [hdec]; exact Tk.va_range (by decide) (by rw [hdg]; exact hov))
          have iov : 255 < a * 16 + ((c.toNat : Int) - 48) := by omega
          clear hdec hacc hov ha hdg
          go_wp2
          go_ret2
          exact ⟨.inr ⟨HF.out, rfl⟩, hend.out⟩
        · have HN : Hid (a * 16 + ((c.toNat : Int) - 48) = ((acc * 16 + (c.toNat - 48) : Nat) : Int) ∧ acc * 16 + (c.toNat - 48) ≤ 255 ∧ Tk.val 16 bs = Tk.va 16 (acc * 16 + (c.toNat - 48)) (bs.drop (k + 1))) := Lib.hid ⟨by omega, by omega, by rw [← hdg]; exact hdec⟩
          have iov : a * 16 + ((c.toNat : Int) - 48) ≤ 255 := by omega
          clear hdec hacc hov ha hdg
          go_wp2
          refine ⟨⟨k + 1, acc * 16 + (c.toNat - 48), a * 16 + ((c.toNat : Int) - 48), rfl, (by first | rfl | (congr 1; omega)), (by first | rfl | (congr 1; omega)), by omega, HN⟩, by simp [intOf]; omega⟩
      · by_cases hov : 255 < acc * 16 + (c.toNat - 55)
        · have HF := Lib.hid (show 255 < Tk.val 16 bs by rw [hdec]; exact Tk.va_range (by decide) (by rw [hdg]; exact hov))
          have iov : 255 < a * 16 + ((c.toNat : Int) - 55) := by omega
          clear hdec hacc hov ha hdg
          go_wp2_with (go_at_call 115; refine (lower_hex2 _ _ hd0 hd1).mono ?_; rintro e w' ⟨rfl, rfl⟩)
          go_ret2
          exact ⟨.inr ⟨HF.out, rfl⟩, hend.out⟩
        · have HN : Hid (a * 16 + ((c.toNat : Int) - 55) = ((acc * 16 + (c.toNat - 55) : Nat) : Int) ∧ acc * 16 + (c.toNat - 55) ≤ 255 ∧ Tk.val 16 bs = Tk.va 16 (acc * 16 + (c.toNat - 55)) (bs.drop (k + 1))) := Lib.hid ⟨by omega, by omega, by rw [← hdg]; exact hdec⟩
          have iov : a * 16 + ((c.toNat : Int) - 55) ≤ 255 := by omega
          clear hdec hacc hov ha hdg
          go_wp2_with (go_at_call 115; refine (lower_hex2 _ _ hd0 hd1).mono ?_; rintro e w' ⟨rfl, rfl⟩)
          refine ⟨⟨k + 1, acc * 16 + (c.toNat - 55), a * 16 + ((c.toNat : Int) - 55), rfl, (by first | rfl | (congr 1; omega)), (by first | rfl | (congr 1; omega)), by omega, HN⟩, by simp [intOf]; omega⟩
    · have hkk : k = t.size := by omega
      subst hkk
      have hF : Tk.va 16 acc (bs.drop t.size) = acc := by rw [List.drop_eq_nil_of_le (by omega)]; rfl
      rw [hF] at hdec
      have HV := Lib.hid hdec
      have HA := Lib.hid ha
      have HM := Lib.hid hacc
      clear hdec hF ha hacc
      go_wp2
      go_ret2
      exact ⟨.inl ⟨by rw [HV.out]; exact HM.out, by rw [HV.out, ← HA.out]; rfl⟩, hend.out⟩
end Go.Proofs.YtcoakhahjdnlfaaDoor

namespace Go.Proofs.YtcoakhahjdnlfaaDoor
set_option linter.all false
open Go.RowKit
theorem lower_hex3 (c : Nat) (w : World) (h1 : 65 ≤ c) (h2 : c ≤ 70) :
    Calls Tryd.prog 115 #[.int .u8 (c : Int)] w fun e w' => e = .returned (.int .u8 ((c : Int) + 32)) ∧ w' = w := by
  have hb : bits .or .u8 (c : Int) 32 = (c : Int) + 32 := by
    have := u8_or_nat c 32 (by omega) (by omega)
    rw [Tk.low_letter h1 h2] at this
    simpa using this
  go_enter Tryd.func115, Tryd.ntmps115
  go_wp2
  go_ret
  exact ⟨rfl, rfl⟩
set_option maxHeartbeats 32000000 in
set_option maxRecDepth 100000 in
theorem puin_10_31 (t : ByteArray) (hne : t.size ≠ 0) (hmax : t.size < 4294967281) (hd : ∀ c ∈ t.data.toList, Tk.digit c = true) (w : World) :
    Calls Tryd.prog 94 #[.string t, .int .i64 10, .int .i64 31] w fun e w' =>
      ((Tk.val 10 t.data.toList ≤ 2147483647 ∧ e = .returned (.tuple #[.int .u64 (Tk.val 10 t.data.toList), .nilIface])) ∨ (2147483647 < Tk.val 10 t.data.toList ∧ e = .returned (.tuple #[.int .u64 2147483647, .iface 162 (.int .i64 1)]))) ∧ ∃ g, w' = more w g := by
  have hemp : t.toList.isEmpty = false := by
    rw [← decide_eq_emptyBytes]
    exact decide_eq_false (fun h => hne (by rw [h]; rfl))
  have hcv := Lib.run_convert_string_bytes (P := Tryd.prog) w 9 31 5 t (u := .string) Tryd.underlying9 Tryd.underlying31 Tryd.underlying5
  have hB : ∀ j, j < t.size → (Lib.bytesWorld w 5 t).cell? ⟨w.heap.size, j, none⟩ = some (.int .u8 (t.data.toList.getD j 0).toNat) := fun j hj => Lib.bytesWorld_cell w 5 t j hj
  have hbel : Below w.heap.size w (Lib.bytesWorld w 5 t) := Lib.bytesWorld_below _ _ _
  obtain ⟨W1, hW1⟩ : ∃ W1, W1 = Lib.bytesWorld w 5 t := ⟨_, rfl⟩
  rw [← hW1] at hcv hB hbel
  have hend := Lib.hid (more_of_below hbel)
  clear hW1 hbel
  obtain ⟨bs, hL⟩ : ∃ bs, bs = t.data.toList := ⟨_, rfl⟩
  have hLn : bs.length = t.size := by rw [hL]; simp
  rw [← hL] at hB hd ⊢
  clear hL
  replace hB := Lib.hid hB
  replace hd := Lib.hid hd
  have hmv : IntKind.u64.wrap (IntKind.u64.wrap (2147483647 + 1) - 1) = 2147483647 := by
    rw [IntKind.wrap_u64, IntKind.wrap_u64]
    decide
  simp only [Int.reduceAdd] at hmv
  go_enter Tryd.func94, Tryd.ntmps94
  go_wp2
  go_loop [12, 13, 101] (fun vu vn vi => ∃ (k acc : Nat) (a : Int), vu = .bool false ∧ vn = .int .u64 a ∧ vi = .int .i64 k ∧ k ≤ t.size ∧ Hid (a = (acc : Int) ∧ acc ≤ 2147483647 ∧ Tk.val 10 bs = Tk.va 10 acc (bs.drop k)))
    (fun _ _ vi => t.size - (intOf vi).toNat)
  case atStart => exact ⟨0, 0, 0, rfl, rfl, rfl, by omega, rfl, by omega, rfl⟩
  case round =>
    obtain ⟨k, acc, a, rfl, rfl, rfl, hk, hh⟩ := hrel
    obtain ⟨ha, hacc, hdec⟩ := hh.out
    clear hh
    have a0 : 0 ≤ a := by omega
    have a1 : a ≤ 2147483647 := by omega
    by_cases hkn : k < t.size
    · have hc := hB.out k hkn
      have hdrop : bs.drop k = bs[k]'(by omega) :: bs.drop (k + 1) := List.drop_eq_getElem_cons (by omega)
      have hget : bs.getD k 0 = bs[k]'(by omega) := by simp [List.getD, List.getElem?_eq_getElem (show k < bs.length by omega)]
      have hdc := hd.out (bs[k]'(by omega)) (List.getElem_mem _)
      rw [hdrop, Tk.va_cons] at hdec
      rw [hget] at hc
      generalize bs[k]'(by omega) = c at hc hdec hdc
      have hc256 : c.toNat < 256 := c.toNat_lt
      have b95 : ((c.toNat : Int) == 95) = false := by
        have := Tk.digit_le hdc
        simp; omega
      clear hdrop hget
      obtain ⟨hd0, hd1, hdg⟩ := Tk.digit_cases hdc
      by_cases hov : 2147483647 < acc * 10 + (c.toNat - 48)
      · have HF := Lib.hid (show 2147483647 < Tk.val 10 bs by rw [hdec]; exact Tk.va_range (by decide) (by rw [hdg]; exact hov))
        have iov : 2147483647 < a * 10 + ((c.toNat : Int) - 48) := by omega
        clear hdec hacc hov ha hdg
        go_wp2
        go_ret2
        exact ⟨.inr ⟨HF.out, rfl⟩, hend.out⟩
      · have HN : Hid (a * 10 + ((c.toNat : Int) - 48) = ((acc * 10 + (c.toNat - 48) : Nat) : Int) ∧ acc * 10 + (c.toNat - 48) ≤ 2147483647 ∧ Tk.val 10 bs = Tk.va 10 (acc * 10 + (c.toNat - 48)) (bs.drop (k + 1))) := Lib.hid ⟨by omega, by omega, by rw [← hdg]; exact hdec⟩
        have iov : a * 10 + ((c.toNat : Int) - 48) ≤ 2147483647 := by omega
        clear hdec hacc hov ha hdg
        go_wp2
        refine ⟨⟨k + 1, acc * 10 + (c.toNat - 48), a * 10 + ((c.toNat : Int) - 48), rfl, (by first | rfl | (congr 1; omega)), (by first | rfl | (congr 1; omega)), by omega, HN⟩, by simp [intOf]; omega⟩
    · have hkk : k = t.size := by omega
      subst hkk
      have hF : Tk.va 10 acc (bs.drop t.size) = acc := by rw [List.drop_eq_nil_of_le (by omega)]; rfl
      rw [hF] at hdec
      have HV := Lib.hid hdec
      have HA := Lib.hid ha
      have HM := Lib.hid hacc
      clear hdec hF ha hacc
      go_wp2
      go_ret2
      exact ⟨.inl ⟨by rw [HV.out]; exact HM.out, by rw [HV.out, ← HA.out]; rfl⟩, hend.out⟩
end Go.Proofs.YtcoakhahjdnlfaaDoor
