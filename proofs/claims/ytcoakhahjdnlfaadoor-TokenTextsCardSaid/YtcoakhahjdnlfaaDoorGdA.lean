/- The walks of the document's Dec (of numbers that are not negative) and hex. Conditions: numbers lie in their bounds. -/
import Derived.Test.YtcoakhahjdnlfaaDoorTokI
import Derived.Test.YtcoakhahjdnlfaaDoorTokRa
import Derived.Laws.BytesArg
namespace Go.Proofs.YtcoakhahjdnlfaaDoor
set_option linter.all false
open Go.RowKit
theorem convert_one (W : World) (b : Nat) (c : UInt8) (h : W.cell? ⟨b, 0, none⟩ = some (.int .u8 (c.toNat : Int))) :
    (convert 31 9 (.slice (some ⟨b, 0, none⟩) 1 1)).run Tryd.prog W = .ok (.string ⟨#[c]⟩) W := by
  have := run_convert_bytes_arg (P := Tryd.prog) W 31 5 Tryd.underlying31 Tryd.underlying5 b 0 1 1 [(c.toNat : Int)] rfl (fun j hj => by
    have : j = 0 := by omega
    subst this
    exact h) 9 Tryd.underlying9
  have hs : strOfNums [(c.toNat : Int)] = ⟨#[c]⟩ := by
    unfold strOfNums
    simp
  rw [this, hs]
namespace Tk
theorem decN_small {n : Nat} (h : n < 10) : decN n = [UInt8.ofNat (48 + n)] := by rw [decN, dif_pos h]
theorem decN_big {n : Nat} (h : ¬ n < 10) : decN n = decN (n / 10) ++ [UInt8.ofNat (48 + n % 10)] := by rw [decN, dif_neg h]
theorem dec_byte (d : Nat) (h : d < 10) : ((UInt8.ofNat (48 + d)).toNat : Int) = 48 + (d : Int) := by
  have : d = 0 ∨ d = 1 ∨ d = 2 ∨ d = 3 ∨ d = 4 ∨ d = 5 ∨ d = 6 ∨ d = 7 ∨ d = 8 ∨ d = 9 := by omega
  rcases this with rfl | rfl | rfl | rfl | rfl | rfl | rfl | rfl | rfl | rfl <;> rfl
theorem decN_le (n : Nat) : (decN n).length ≤ n + 1 := by
  induction n using Nat.strongRecOn with
  | _ n ih =>
    by_cases h : n < 10
    · rw [decN_small h]; simp
    · rw [decN_big h]
      have := ih (n / 10) (by omega)
      simp; omega
end Tk
set_option maxRecDepth 100000 in
set_option maxHeartbeats 1600000 in
theorem rdec_any (n : Nat) : n < 9223372036854775808 → ∀ w : World, Calls Tryd.prog 31 #[.int .i64 n] w fun e w' => e = .returned (.string ⟨(Tk.decN n).toArray⟩) ∧ ∃ g, w' = more w g := by
  induction n using Nat.strongRecOn with
  | _ n ih =>
    intro hn w
    obtain ⟨z, hz⟩ : ∃ z : Int, z = n := ⟨_, rfl⟩
    rw [← hz]
    have z0 : 0 ≤ z := by omega
    by_cases h : n < 10
    · have z1 : z < 10 := by omega
      have hb := Tk.dec_byte n h
      rw [← hz] at hb
      rw [Tk.decN_small h]
      generalize UInt8.ofNat (48 + n) = c at *
      have hcv := convert_one (w.alloc (.cells #[.int .u8 (48 + z)] 5)) w.heap.size c (by rw [hb]; simp [go_sem])
      clear hz h ih hn hb
      go_enter Tryd.func31, Tryd.ntmps31
      go_wp2
      go_ret
      exact ⟨rfl, more_of_below (by repeat' (first | (with_reducible exact Below.refl _ _) | (with_reducible assumption) | (with_reducible refine below_more ?_ ?_ _) | (with_reducible refine below_drewN ?_ _) | (with_reducible refine Below.drew ?_) | (with_reducible refine Below.alloc ?_ ?_ _) | (with_reducible refine Below.setCell ?_ ?_ _) | go_size | (simp [more_size]; done) | (simp [more_size]; omega)))⟩
    · have z1 : 10 ≤ z := by omega
      have IH := Lib.hid (fun W => ih (n / 10) (by omega) (by omega) W)
      have hq : z.tdiv 10 = ((n / 10 : Nat) : Int) := by rw [hz]; rfl
      have hr : z.tmod 10 = ((n % 10 : Nat) : Int) := by rw [hz]; rfl
      have hb := Tk.dec_byte (n % 10) (by omega)
      have hd : n % 10 < 10 := Nat.mod_lt _ (by decide)
      have HD := Lib.hid (show (⟨(Tk.decN n).toArray⟩ : ByteArray) = ⟨(Tk.decN (n / 10)).toArray⟩ ++ ⟨#[UInt8.ofNat (48 + n % 10)]⟩ by
        rw [Tk.decN_big h]; apply ByteArray.ext; simp [ByteArray.data_append])
      have hl : (⟨(Tk.decN (n / 10)).toArray⟩ : ByteArray).size ≤ n / 10 + 1 := by show (Tk.decN (n / 10)).toArray.size ≤ _; simpa using Tk.decN_le (n / 10)
      have hq1 : n / 10 ≤ 922337203685477580 := by omega
      generalize n / 10 = q at *
      generalize n % 10 = r at *
      generalize UInt8.ofNat (48 + r) = c at *
      generalize (⟨(Tk.decN q).toArray⟩ : ByteArray) = D at *
      have hD : (D.size : Int) ≤ 922337203685477581 := by omega
      obtain ⟨zq, hzq⟩ : ∃ zq : Int, zq = (q : Int) := ⟨_, rfl⟩
      obtain ⟨zr, hzr⟩ : ∃ zr : Int, zr = (r : Int) := ⟨_, rfl⟩
      rw [← hzq] at hq IH
      rw [← hzr] at hr hb
      have q0 : 0 ≤ zq := by omega
      have q1 : zq ≤ 922337203685477580 := by omega
      have r0 : 0 ≤ zr := by omega
      have r1 : zr < 10 := by omega
      have hw1 : IntKind.i64.wrap zq = zq := by rw [IntKind.wrap_i64]; omega
      have hw2 : IntKind.i64.wrap (48 + zr) = 48 + zr := by rw [IntKind.wrap_i64]; omega
      have hw3 : IntKind.u8.wrap (48 + zr) = 48 + zr := by rw [IntKind.wrap_u8]; omega
      have hcv := fun W b => convert_one W b c
      rw [hb] at hcv
      clear hz h ih hb hzq hzr hd hl hq1 hn
      go_enter Tryd.func31, Tryd.ntmps31
      go_wp2_with fail
      go_region_with (go_at_call 31; (with_reducible refine (IH.out _).mono ?_); rintro e w2 ⟨rfl, g, rfl⟩)
      all_goals first
        | (exfalso; omega)
        | (go_wp2; go_ret; exact ⟨by rw [HD.out]; rfl, more_of_below (by repeat' (first | (with_reducible exact Below.refl _ _) | (with_reducible assumption) | (with_reducible refine below_more ?_ ?_ _) | (with_reducible refine below_drewN ?_ _) | (with_reducible refine Below.drew ?_) | (with_reducible refine Below.alloc ?_ ?_ _) | (with_reducible refine Below.setCell ?_ ?_ _) | go_size | (simp [more_size]; done) | (simp [more_size]; omega)))⟩)
namespace Tk
theorem hx_letter (d : Nat) (h : d < 16) : letter (hx d) = decide (57 < (hx d).toNat) := by
  have : d = 0 ∨ d = 1 ∨ d = 2 ∨ d = 3 ∨ d = 4 ∨ d = 5 ∨ d = 6 ∨ d = 7 ∨ d = 8 ∨ d = 9 ∨ d = 10 ∨ d = 11 ∨ d = 12 ∨ d = 13 ∨ d = 14 ∨ d = 15 := by omega
  rcases this with rfl | rfl | rfl | rfl | rfl | rfl | rfl | rfl | rfl | rfl | rfl | rfl | rfl | rfl | rfl | rfl <;> rfl
theorem hexN_small {n : Nat} (h : n < 16) : hexN n = [hx n] := by rw [hexN, dif_pos h]
theorem hexN_big {n : Nat} (h : ¬ n < 16) : hexN n = hexN (n / 16) ++ [hx (n % 16)] := by rw [hexN, dif_neg h]
theorem hexN_letter (n : Nat) : ∀ c ∈ hexN n, letter c = decide (57 < c.toNat) := by
  induction n using Nat.strongRecOn with
  | _ n ih =>
    by_cases h : n < 16
    · rw [hexN_small h]; intro c hc; simp at hc; subst hc; exact hx_letter n h
    · rw [hexN_big h]
      intro c hc
      rcases List.mem_append.1 hc with hc | hc
      · exact ih (n / 16) (by omega) c hc
      · simp at hc; subst hc; exact hx_letter _ (by omega)
abbrev digs16 : ByteArray := ⟨#[48, 49, 50, 51, 52, 53, 54, 55, 56, 57, 65, 66, 67, 68, 69, 70]⟩
theorem dig_cut (d : Nat) (h : d < 16) : digs16.extract d (d + 1) = ⟨#[hx d]⟩ := by
  have : d = 0 ∨ d = 1 ∨ d = 2 ∨ d = 3 ∨ d = 4 ∨ d = 5 ∨ d = 6 ∨ d = 7 ∨ d = 8 ∨ d = 9 ∨ d = 10 ∨ d = 11 ∨ d = 12 ∨ d = 13 ∨ d = 14 ∨ d = 15 := by omega
  rcases this with rfl | rfl | rfl | rfl | rfl | rfl | rfl | rfl | rfl | rfl | rfl | rfl | rfl | rfl | rfl | rfl <;> decide +kernel
/-- what hex's loop has: what is still to be written, and what is written -/
def HexIn (n m : Nat) (s : ByteArray) : Prop := (m = 0 ∧ s.data.toList = hexN n ∧ 0 < s.size) ∨ ((0 < m ∨ s.size = 0) ∧ hexN n = hexN m ++ s.data.toList)
theorem hex_next {n m : Nat} {s : ByteArray} (h : HexIn n m s) (hm : 0 < m ∨ s.size = 0) : HexIn n (m / 16) ((⟨#[hx (m % 16)]⟩ : ByteArray) ++ s) := by
  have hsz : 0 < ((⟨#[hx (m % 16)]⟩ : ByteArray) ++ s).size := by simp [ByteArray.size_append]; have : (⟨#[hx (m % 16)]⟩ : ByteArray).size = 1 := rfl; omega
  have hE : hexN n = hexN m ++ s.data.toList := by
    rcases h with ⟨h1, h2, h3⟩ | ⟨_, h2⟩
    · omega
    · exact h2
  by_cases h16 : m < 16
  · refine .inl ⟨by omega, ?_, hsz⟩
    rw [hE, hexN_small h16, Nat.mod_eq_of_lt h16]
    simp [ByteArray.data_append]
  · refine .inr ⟨.inl (by omega), ?_⟩
    rw [hE, hexN_big h16]
    simp [ByteArray.data_append]
theorem hex_end {n : Nat} {s : ByteArray} (h : HexIn n 0 s) (hs : 0 < s.size) : s.data.toList = hexN n := by
  rcases h with ⟨_, h2, _⟩ | ⟨h1, _⟩
  · exact h2
  · omega
end Tk
set_option maxRecDepth 100000 in
set_option maxHeartbeats 3200000 in
theorem rhex_any (n : Nat) (al : Bool) (w : World) (hn : n < 8589934592) :
    Calls Tryd.prog 68 #[.int .i64 n, .bool al] w fun e w' => (∃ t : ByteArray, Hid (t.data.toList = Tk.hexed n al) ∧ e = .returned (.string t)) ∧ ∃ g, w' = more w g := by
  go_enter Tryd.func68, Tryd.ntmps68
  go_wp2
  go_loopw [0, 5] (fun sn ss wr => ∃ (m : Nat) (z : Int) (s : ByteArray), sn = .int .i64 z ∧ ss = .string s ∧ wr = w ∧ s.size ≤ 9 ∧ 0 ≤ z ∧ z < 8589934592 ∧ Hid (z = m ∧ Tk.HexIn n m s)) (fun sn ss _ => (intOf sn).toNat + (match ss with | .string b => if b.size = 0 then 1 else 0 | _ => 0))
  case atStart => exact ⟨n, n, ⟨#[]⟩, rfl, rfl, rfl, by decide, by omega, by omega, Lib.hid ⟨rfl, .inr ⟨.inr rfl, by simp⟩⟩⟩
  case round =>
    obtain ⟨m, z, s, rfl, rfl, rfl, hs, z0, z1, H⟩ := hrel
    obtain ⟨hzm, hin⟩ := H.out
    clear H
    have step : (0 < m ∨ s.size = 0) → ∃ (q : Int) (d : Nat), z.tdiv 16 = q ∧ z.tmod 16 = (d : Int) ∧ d < 16 ∧ 0 ≤ q ∧ q ≤ z ∧ (0 < z → q < z) ∧ Hid (Tk.digs16.extract d (d + 1) = ⟨#[Tk.hx d]⟩) ∧ Hid (q = (m / 16 : Nat) ∧ Tk.HexIn n (m / 16) ((⟨#[Tk.hx d]⟩ : ByteArray) ++ s)) ∧ s.size < 9 := by
      intro h
      refine ⟨((m / 16 : Nat) : Int), m % 16, by rw [hzm]; rfl, by rw [hzm]; rfl, Nat.mod_lt _ (by decide), by omega, by omega, by omega, Lib.hid (Tk.dig_cut _ (Nat.mod_lt _ (by decide))), Lib.hid ⟨rfl, Tk.hex_next hin h⟩, ?_⟩
      have h9 := Tk.hexN_len n 8 (by omega)
      have h2 : s.data.toList.length = s.size := by simp
      rcases hin with ⟨_, _, _⟩ | ⟨_, h3⟩
      · omega
      · have := congrArg List.length h3
        rw [List.length_append, h2] at this
        have h4 : 0 < (Tk.hexN m).length := by
          rcases Nat.lt_or_ge m 16 with h | h
          · rw [Tk.hexN_small h]; simp
          · rw [Tk.hexN_big (by omega)]; simp
        omega
    by_cases hz : 0 < z
    · obtain ⟨q, d, hq, hr, hd, q0, q1, q2, hcut, HN, hs9⟩ := step (.inl (by omega))
      have hs2 := q2 hz
      clear q2 step hin hzm
      have hw1 : IntKind.i64.wrap q = q := by rw [IntKind.wrap_i64]; omega
      have hcut2 := hcut.out
      unfold Tk.digs16 at hcut2
      clear hcut
      have hqz : q < 8589934592 := by omega
      go_wp2
      refine ⟨⟨m / 16, q, (⟨#[Tk.hx d]⟩ : ByteArray) ++ s, rfl, rfl, (by first | rfl | trivial), by rw [ByteArray.size_append, show (⟨#[Tk.hx d]⟩ : ByteArray).size = 1 from rfl]; omega, q0, hqz, HN⟩, ?_⟩
      have e1 : ((⟨#[Tk.hx d]⟩ : ByteArray) ++ s).size = 1 + s.size := by rw [ByteArray.size_append]; rfl
      show q.toNat + (if ((⟨#[Tk.hx d]⟩ : ByteArray) ++ s).size = 0 then 1 else 0) < z.toNat + (if s.size = 0 then 1 else 0)
      rw [if_neg (by omega)]
      split <;> omega
    · have hz0 : z = 0 := by omega
      subst hz0
      by_cases hss : s.size = 0
      · have hse : s = ⟨#[]⟩ := by apply ByteArray.ext; apply Array.eq_empty_of_size_eq_zero; exact hss
        obtain ⟨q, d, hq, hr, hd, q0, q1, q2, hcut, HN, hs9⟩ := step (.inr hss)
        have hcut2 := hcut.out
        unfold Tk.digs16 at hcut2
        clear q2 step hin hzm hcut
        subst hse
        have hq0 : q = 0 := by omega
        subst hq0
        have e1 : ((⟨#[Tk.hx d]⟩ : ByteArray) ++ ⟨#[]⟩) = ⟨#[Tk.hx d]⟩ := by apply ByteArray.ext; simp [ByteArray.data_append]
        go_wp2
        refine ⟨⟨m / 16, 0, (⟨#[Tk.hx d]⟩ : ByteArray) ++ ⟨#[]⟩, rfl, ?_, (by first | rfl | trivial), by rw [ByteArray.size_append, show (⟨#[Tk.hx d]⟩ : ByteArray).size = 1 from rfl]; exact (by decide), by omega, by omega, HN⟩, ?_⟩
        · first | rfl | (rw [e1]) | (rw [← hcut2]) | trace_state
        · show 0 + (if (1 : Nat) = 0 then 1 else 0) < 0 + (if (0 : Nat) = 0 then 1 else 0)
          decide
      · have hsb : (s.toList == ([] : List UInt8)) = false := ne_bytes (x := s) (l := []) (by rintro rfl; exact hss rfl)
        have hm0 : m = 0 := by omega
        subst hm0
        have HE := Lib.hid (Tk.hex_end hin (by omega))
        have hpos : 0 < s.size := by omega
        have h0 : s.data.toList = s[0] :: s.data.toList.drop 1 := by have := Tk.drop_at s 0 hpos; simpa using this
        have hlt := Tk.hexN_letter n s[0] (by rw [← HE.out, h0]; exact List.mem_cons_self ..)
        have HX := Lib.hid (show ∀ a, Tk.hexed n a = if (a || decide (57 < s[0].toNat)) = true then 48 :: s.data.toList else s.data.toList by
          intro a; unfold Tk.hexed; rw [← HE.out]; rw [h0])
        clear h0 step hin hzm hss
        have h256 : s[0].toNat < 256 := s[0].toNat_lt
        generalize hc : s[0] = c at *
        cases al
        · by_cases h57 : 57 < c.toNat
          · have HL := Lib.hid (rletter_at (c := c) (r := true) (by rw [hlt]; simpa using h57))
            have HV := Lib.hid (show Tk.hexed n false = 48 :: s.data.toList by rw [HX.out]; simp [h57])
            clear h57 hlt HE HX
            go_wp2_with (go_at_call 47; (with_reducible refine (HL.out _).mono ?_); rintro e w2 ⟨rfl, rfl⟩)
            go_ret
            refine ⟨⟨_, Lib.hid ?_, rfl⟩, more_refl _⟩
            rw [HV.out, ByteArray.data_append]; simp
          · have HL := Lib.hid (rletter_at (c := c) (r := false) (by rw [hlt]; simpa using h57))
            have HV := Lib.hid (show Tk.hexed n false = s.data.toList by rw [HX.out]; simp [h57])
            clear h57 hlt HE HX
            go_wp2_with (go_at_call 47; (with_reducible refine (HL.out _).mono ?_); rintro e w2 ⟨rfl, rfl⟩)
            go_ret
            exact ⟨⟨_, Lib.hid HV.out.symm, rfl⟩, more_refl _⟩
        · have HV := Lib.hid (show Tk.hexed n true = 48 :: s.data.toList by rw [HX.out]; simp)
          clear hlt HE HX
          go_wp2
          go_ret
          refine ⟨⟨_, Lib.hid ?_, rfl⟩, more_refl _⟩
          rw [HV.out]; simp [ByteArray.data_append]
end Go.Proofs.YtcoakhahjdnlfaaDoor
