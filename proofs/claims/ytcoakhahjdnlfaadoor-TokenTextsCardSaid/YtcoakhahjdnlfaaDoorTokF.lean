/- The walk of token.text. Conditions: the text's size is bounded, and it is not empty. -/
import Derived.Test.YtcoakhahjdnlfaaDoorTokL
namespace Go.Proofs.YtcoakhahjdnlfaaDoor
set_option linter.all false
open Go.RowKit
set_option maxHeartbeats 2000000 in
theorem text_any (s : ByteArray) (w : World) (hs : s.size < 4294967281) (h1 : 1 ≤ s.size) (R : Tk.R) (hR : Tk.textT (s.data.toList.drop 1) = R) :
    Calls Tryd.prog 44 #[.string s] w fun e w' => Tk.TokRet R 0 0 e ∧ ∃ g, w' = more w g := by
  have hR := Lib.hid hR
  go_enter Tryd.func44, Tryd.ntmps44
  go_wp2
  go_loop [5] (fun i => ∃ k : Nat, 1 ≤ k ∧ k ≤ s.size ∧ i = .int .i64 k ∧ Hid (((s.data.toList.drop 1).takeWhile Tk.plain).length = (k - 1) + ((s.data.toList.drop k).takeWhile Tk.plain).length)) (fun i => s.size - (intOf i).toNat)
  case atStart => exact ⟨1, by omega, by omega, rfl, Lib.hid (by simp)⟩
  case round =>
    obtain ⟨k, hk1, hk, rfl, H⟩ := hrel
    by_cases hlt : k < s.size
    · have HA := Lib.hid (Tk.take1_at s k hlt)
      have HI := Lib.hid (fun hp => Tk.tw_in s Tk.plain (T := ((s.data.toList.drop 1).takeWhile Tk.plain).length) (j := k - 1) hlt hp H.out)
      have HO := Lib.hid (fun hp => hR.out.symm.trans (Tk.textT_at s (Tk.tw_out s Tk.plain (T := ((s.data.toList.drop 1).takeWhile Tk.plain).length) (j := k - 1) hlt hp H.out) hk1))
      clear H
      generalize hc : s[k] = c at *
      have hb : c.toNat < 256 := c.toNat_lt
      by_cases h34 : c.toNat = 34
      · have hc34 : c = 34 := by rw [← UInt8.toNat_inj]; exact h34
        have HV := Lib.hid (HO.out (by subst hc34; rfl))
        rw [HA.out, hc34, if_pos rfl] at HV
        have e1 : ((c.toNat : Int) != 34) = false := by simp; omega
        clear HI HO HA hc34
        by_cases h64 : 64 < k - 1
        · rw [if_pos h64] at HV
          have h64' : (64 : Int) < (k : Int) - 1 := by omega
          go_wp2
          go_returns
          refine ⟨?_, more_of_below (by repeat' (first | (with_reducible exact Below.refl _ _) | (with_reducible assumption) | (with_reducible refine below_more ?_ ?_ _) | (with_reducible refine below_drewN ?_ _) | (with_reducible refine Below.drew ?_) | (with_reducible refine Below.alloc ?_ ?_ _) | (with_reducible refine Below.setCell ?_ ?_ _) | go_size))⟩
          rw [HV.out]
          exact ⟨_, _, _, _, _, rfl⟩
        · rw [if_neg h64] at HV
          have h64' : (k : Int) - 1 ≤ 64 := by omega
          go_wp2
          go_returns
          refine ⟨?_, more_of_below (by repeat' (first | (with_reducible exact Below.refl _ _) | (with_reducible assumption) | (with_reducible refine below_more ?_ ?_ _) | (with_reducible refine below_drewN ?_ _) | (with_reducible refine Below.drew ?_) | (with_reducible refine Below.alloc ?_ ?_ _) | (with_reducible refine Below.setCell ?_ ?_ _) | go_size))⟩
          rw [HV.out]
          refine ⟨_, rfl, ?_⟩
          rw [show ((k - 1 + 2 + 0 : Nat) : Int) = (k : Int) + 1 by omega]
          rfl
      · have e1 : ((c.toNat : Int) != 34) = true := by simp; omega
        by_cases h32 : 32 ≤ c.toNat
        · have e2 : (32 : Int) ≤ (c.toNat : Int) := by omega
          have HN := Lib.hid (HI.out (by simp [Tk.plain, h32]; intro h; exact h34 (by rw [h]; rfl)))
          clear HI HO HA
          go_wp2
          go_round
          case rel => exact ⟨k + 1, by omega, by omega, by go_num, Lib.hid (by rw [HN.out]; omega)⟩
          case measure => simp [intOf]; omega
        · have HV := Lib.hid (HO.out (by simp [Tk.plain]; omega))
          rw [HA.out, if_neg (by intro h; simp at h; exact h34 (by rw [h]; rfl))] at HV
          have e2 : (c.toNat : Int) < 32 := by omega
          clear HI HO HA
          go_wp2
          go_returns
          refine ⟨?_, more_of_below (by repeat' (first | (with_reducible exact Below.refl _ _) | (with_reducible assumption) | (with_reducible refine below_more ?_ ?_ _) | (with_reducible refine below_drewN ?_ _) | (with_reducible refine Below.drew ?_) | (with_reducible refine Below.alloc ?_ ?_ _) | (with_reducible refine Below.setCell ?_ ?_ _) | go_size))⟩
          rw [HV.out]
          exact ⟨_, _, _, _, _, rfl⟩
    · have HV := Lib.hid (hR.out.symm.trans (Tk.textT_at s (Tk.tw_end s Tk.plain (T := ((s.data.toList.drop 1).takeWhile Tk.plain).length) (j := k - 1) hlt H.out) hk1))
      rw [Tk.take1_end s k hlt, if_neg (by simp)] at HV
      clear H
      go_wp2
      go_returns
      refine ⟨?_, more_of_below (by repeat' (first | (with_reducible exact Below.refl _ _) | (with_reducible assumption) | (with_reducible refine below_more ?_ ?_ _) | (with_reducible refine below_drewN ?_ _) | (with_reducible refine Below.drew ?_) | (with_reducible refine Below.alloc ?_ ?_ _) | (with_reducible refine Below.setCell ?_ ?_ _) | go_size))⟩
      rw [HV.out]
      exact ⟨_, _, _, _, _, rfl⟩
end Go.Proofs.YtcoakhahjdnlfaaDoor
