/- The walks of the document's Dec, reg, ops, conds. Conditions: numbers lie in their bounds. -/
import Derived.Test.YtcckbmmjklahfaaDoorAsS
import Derived.Test.YtcckbmmjklahfaaDoorLt2W
import Derived.Laws.BytesArg
import Derived.BigQuiet
import Derived.Deep.QuietTactic
import Derived.WalkLawsBesides
import Derived.WalkSpells
import Derived.Handy
namespace Go.Proofs.YtcckbmmjklahfaaDoor
set_option linter.all false
open Go.RowKit
theorem convert_one (W : World) (b : Nat) (c : UInt8) (h : W.cell? ⟨b, 0, none⟩ = some (.int .u8 (c.toNat : Int))) :
    (convert 58 9 (.slice (some ⟨b, 0, none⟩) 1 1)).run Tryd.prog W = .ok (.string ⟨#[c]⟩) W := by
  have := run_convert_bytes_arg (P := Tryd.prog) W 58 5 Tryd.underlying58 Tryd.underlying5 b 0 1 1 [(c.toNat : Int)] rfl (fun j hj => by
    have : j = 0 := by omega
    subst this
    exact h) 9 Tryd.underlying9
  have hs : strOfNums [(c.toNat : Int)] = ⟨#[c]⟩ := by
    unfold strOfNums
    simp
  rw [this, hs]
namespace Tk
theorem decN_small {n : Nat} (h : n < 10) : decN n = [UInt8.ofNat (48 + n)] := by rw [decN, dif_pos h]
theorem decN_big {n : Nat} (h : ¬ n < 10) : decN n = decN (n / 10) ++ [UInt8.ofNat (48 + n % 10)] := by rw [decN, dif_neg h]
theorem dec_byte (d : Nat) (h : d < 10) : ((UInt8.ofNat (48 + d)).toNat : Int) = 48 + (d : Int) := by
  have : d = 0 ∨ d = 1 ∨ d = 2 ∨ d = 3 ∨ d = 4 ∨ d = 5 ∨ d = 6 ∨ d = 7 ∨ d = 8 ∨ d = 9 := by omega
  rcases this with rfl | rfl | rfl | rfl | rfl | rfl | rfl | rfl | rfl | rfl <;> rfl
theorem decN_le (n : Nat) : (decN n).length ≤ n + 1 := by
  induction n using Nat.strongRecOn with
  | _ n ih =>
    by_cases h : n < 10
    · rw [decN_small h]; simp
    · rw [decN_big h]
      have := ih (n / 10) (by omega)
      simp; omega
end Tk
set_option maxRecDepth 100000 in
set_option maxHeartbeats 1600000 in
theorem rdecn_any (n : Nat) : n < 9223372036854775808 → ∀ w : World, Calls Tryd.prog 12 #[.int .i64 n] w fun e w' => e = .returned (.string ⟨(Tk.decN n).toArray⟩) ∧ ∃ g, w' = more w g := by
  induction n using Nat.strongRecOn with
  | _ n ih =>
    intro hn w
    obtain ⟨z, hz⟩ : ∃ z : Int, z = n := ⟨_, rfl⟩
    rw [← hz]
    have z0 : 0 ≤ z := by omega
    by_cases h : n < 10
    · have z1 : z < 10 := by omega
      have hb := Tk.dec_byte n h
      rw [← hz] at hb
      rw [Tk.decN_small h]
      generalize UInt8.ofNat (48 + n) = c at *
      have hcv := convert_one (w.alloc (.cells #[.int .u8 (48 + z)] 5)) w.heap.size c (by rw [hb]; simp [go_sem])
      clear hz h ih hn hb
      go_enter Tryd.func12, Tryd.ntmps12
      go_wp2
      go_ret
      exact ⟨rfl, more_of_below (by repeat' (first | (with_reducible exact Below.refl _ _) | (with_reducible assumption) | (with_reducible refine below_more ?_ ?_ _) | (with_reducible refine below_drewN ?_ _) | (with_reducible refine Below.drew ?_) | (with_reducible refine Below.alloc ?_ ?_ _) | (with_reducible refine Below.setCell ?_ ?_ _) | go_size | (simp [more_size]; done) | (simp [more_size]; omega)))⟩
    · have z1 : 10 ≤ z := by omega
      have IH := Lib.hid (fun W => ih (n / 10) (by omega) (by omega) W)
      have hq : z.tdiv 10 = ((n / 10 : Nat) : Int) := by rw [hz]; rfl
      have hr : z.tmod 10 = ((n % 10 : Nat) : Int) := by rw [hz]; rfl
      have hb := Tk.dec_byte (n % 10) (by omega)
      have hd : n % 10 < 10 := Nat.mod_lt _ (by decide)
      have HD := Lib.hid (show (⟨(Tk.decN n).toArray⟩ : ByteArray) = ⟨(Tk.decN (n / 10)).toArray⟩ ++ ⟨#[UInt8.ofNat (48 + n % 10)]⟩ by
        rw [Tk.decN_big h]; apply ByteArray.ext; simp [ByteArray.data_append])
      have hl : (⟨(Tk.decN (n / 10)).toArray⟩ : ByteArray).size ≤ n / 10 + 1 := by show (Tk.decN (n / 10)).toArray.size ≤ _; simpa using Tk.decN_le (n / 10)
      have hq1 : n / 10 ≤ 922337203685477580 := by omega
      generalize n / 10 = q at *
      generalize n % 10 = r at *
      generalize UInt8.ofNat (48 + r) = c at *
      generalize (⟨(Tk.decN q).toArray⟩ : ByteArray) = D at *
      have hD : (D.size : Int) ≤ 922337203685477581 := by omega
      obtain ⟨zq, hzq⟩ : ∃ zq : Int, zq = (q : Int) := ⟨_, rfl⟩
      obtain ⟨zr, hzr⟩ : ∃ zr : Int, zr = (r : Int) := ⟨_, rfl⟩
      rw [← hzq] at hq IH
      rw [← hzr] at hr hb
      have q0 : 0 ≤ zq := by omega
      have q1 : zq ≤ 922337203685477580 := by omega
      have r0 : 0 ≤ zr := by omega
      have r1 : zr < 10 := by omega
      have hw1 : IntKind.i64.wrap zq = zq := by rw [IntKind.wrap_i64]; omega
      have hw2 : IntKind.i64.wrap (48 + zr) = 48 + zr := by rw [IntKind.wrap_i64]; omega
      have hw3 : IntKind.u8.wrap (48 + zr) = 48 + zr := by rw [IntKind.wrap_u8]; omega
      have hcv := fun W b => convert_one W b c
      rw [hb] at hcv
      clear hz h ih hb hzq hzr hd hl hq1 hn
      go_enter Tryd.func12, Tryd.ntmps12
      go_wp2_with fail
      go_region_with (go_at_call 12; (with_reducible refine (IH.out _).mono ?_); rintro e w2 ⟨rfl, g, rfl⟩)
      all_goals first
        | (exfalso; omega)
        | (go_wp2; go_ret; exact ⟨by rw [HD.out]; rfl, more_of_below (by repeat' (first | (with_reducible exact Below.refl _ _) | (with_reducible assumption) | (with_reducible refine below_more ?_ ?_ _) | (with_reducible refine below_drewN ?_ _) | (with_reducible refine Below.drew ?_) | (with_reducible refine Below.alloc ?_ ?_ _) | (with_reducible refine Below.setCell ?_ ?_ _) | go_size | (simp [more_size]; done) | (simp [more_size]; omega)))⟩)

set_option maxRecDepth 100000 in
theorem rdec_itoa (n : Int) (h0 : -9223372036854775808 < n) (h1 : n < 9223372036854775808) (w : World) : Calls Tryd.prog 12 #[.int .i64 n] w fun e w' => e = .returned (.string ⟨(Lib.itoa n).toArray⟩) ∧ ∃ g, w' = more w g := by
  by_cases h : n < 0
  · obtain ⟨m, hm⟩ : ∃ m : Nat, -n = m := ⟨(-n).toNat, by omega⟩
    have HR := Lib.hid (fun W => rdecn_any m (by omega) W)
    have HS := Lib.hid (show (⟨(Lib.itoa n).toArray⟩ : ByteArray) = ⟨#[45]⟩ ++ ⟨(Tk.decN m).toArray⟩ by
      rw [As.itoa_neg h, show (-n).toNat = m by omega]; apply ByteArray.ext; simp [ByteArray.data_append])
    have hl : (⟨(Tk.decN m).toArray⟩ : ByteArray).size ≤ m + 1 := by show (Tk.decN m).toArray.size ≤ _; simpa using Tk.decN_le m
    have hd : (((⟨(Tk.decN m).toArray⟩ : ByteArray).size : Nat) : Int) ≤ 19 := by
      have h2 : (Tk.decN m).length ≤ 19 := Tk.decN_len m 18 (by omega)
      show (((Tk.decN m).toArray.size : Nat) : Int) ≤ _
      simp; omega
    rw [HS.out]
    generalize (⟨(Tk.decN m).toArray⟩ : ByteArray) = D at *
    clear HS hl
    have hD : (D.size : Int) ≤ 19 := hd
    have hneg : IntKind.i64.wrap (-n) = -n := by rw [IntKind.wrap_i64]; omega
    have hm0 := Lib.hid hm
    clear hd hm
    obtain ⟨z, hz⟩ : ∃ z : Int, z = -n := ⟨_, rfl⟩
    have hzm := Lib.hid (show z = (m : Int) by rw [hz]; exact hm0.out)
    rw [← hz] at hneg
    have hnz := Lib.hid hz
    clear hz
    have HR2 := Lib.hid (show ∀ W : World, Calls Tryd.prog 12 #[.int .i64 (-n)] W fun e w' => e = .returned (.string D) ∧ ∃ g, w' = more W g from fun W => by rw [hm0.out]; exact HR.out W)
    clear HR hneg
    have hw : IntKind.i64.wrap (-n) = -n := by rw [IntKind.wrap_i64]; omega
    go_enter Tryd.func12, Tryd.ntmps12
    go_wp2_with (go_at_call 12; (with_reducible refine (HR2.out _).mono ?_); rintro e w2 ⟨rfl, g, rfl⟩)
    go_ret
    exact ⟨rfl, more_of_below (by repeat' (first | (with_reducible exact Below.refl _ _) | (with_reducible assumption) | (with_reducible refine below_more ?_ ?_ _) | (with_reducible refine below_drewN ?_ _) | (with_reducible refine Below.drew ?_) | (with_reducible refine Below.alloc ?_ ?_ _) | (with_reducible refine Below.setCell ?_ ?_ _) | go_size | (simp [more_size]; done) | (simp [more_size]; omega)))⟩
  · obtain ⟨m, rfl⟩ := Int.eq_ofNat_of_zero_le (show 0 ≤ n by omega)
    rw [As.itoa_pos (by omega)]
    exact rdecn_any m (by omega) w
theorem rreg_any (n : Int) (h0 : 0 ≤ n) (h1 : n < 16) (w : World) :
    Calls Tryd.prog 11 #[.int .i64 n] w fun e w' => e = .returned (.string ⟨(As.reg n).toArray⟩) ∧ ∃ g, w' = more w g := by
  have H := Lib.hid (fun w => rdec_itoa n (by omega) (by omega) w)
  have hl := As.reg_len n h0 h1
  have HR := Lib.hid (show (⟨(As.reg n).toArray⟩ : ByteArray) = ⟨#[82]⟩ ++ ⟨(Lib.itoa n).toArray⟩ from by apply ByteArray.ext; simp [As.reg, ByteArray.data_append])
  have hsz : (⟨(Lib.itoa n).toArray⟩ : ByteArray).size ≤ 3 := by
    have : (As.reg n).length = (Lib.itoa n).length + 1 := by simp [As.reg]
    show (Lib.itoa n).toArray.size ≤ 3
    simp; omega
  rw [HR.out]
  generalize (⟨(Lib.itoa n).toArray⟩ : ByteArray) = S at *
  clear hl HR h0 h1
  go_enter Tryd.func11, Tryd.ntmps11
  go_wp2_with (go_at_call 12; (with_reducible refine (H.out _).mono ?_); rintro e w2 ⟨rfl, g, rfl⟩)
  go_ret
  exact ⟨rfl, more_of_below (by repeat' (first | (with_reducible exact Below.refl _ _) | (with_reducible assumption) | (with_reducible refine below_more ?_ ?_ _) | (with_reducible refine below_drewN ?_ _) | (with_reducible refine Below.drew ?_) | (with_reducible refine Below.alloc ?_ ?_ _) | (with_reducible refine Below.setCell ?_ ?_ _) | go_size | (simp [more_size]; done) | (simp [more_size]; omega)))⟩
theorem rops_any (w : World) : Calls Tryd.prog 10 #[] w fun e w' => e = .returned (.slice (some ⟨w.heap.size, 0, none⟩) 12 12) ∧ w' = w.alloc (.cells (As.scs As.ops) 9) := by
  go_enter Tryd.func10, Tryd.ntmps10
  go_wp2
  go_ret
  exact ⟨rfl, by rfl⟩
theorem rconds_any (w : World) : Calls Tryd.prog 13 #[] w fun e w' => e = .returned (.slice (some ⟨w.heap.size, 0, none⟩) 16 16) ∧ w' = w.alloc (.cells (As.scs As.conds) 9) := by
  go_enter Tryd.func13, Tryd.ntmps13
  go_wp2
  go_ret
  exact ⟨rfl, by rfl⟩
namespace As
theorem sz3 (u : World) (o : Obj) : (u.alloc o).heap.size = u.heap.size + 1 := Array.size_push ..
end As
end Go.Proofs.YtcckbmmjklahfaaDoor
