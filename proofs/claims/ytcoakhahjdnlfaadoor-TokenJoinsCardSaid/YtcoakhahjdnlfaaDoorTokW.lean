/- The walks of the token package's small functions: run, comment, and of the document's answer: comment, skip. -/
import Derived.Test.YtcoakhahjdnlfaaDoorChecked
import Derived.Test.YtcoakhahjdnlfaaDoorTokP
import Derived.Test.YtcoakhahjdnlfaaDoorMoreW
import Derived.BigQuiet
import Derived.Deep.QuietTactic
import Derived.WalkLawsBesides
import Derived.WalkSpells
import Derived.Handy
import Derived.Lib.Hide
import Derived.Lib.Strings
namespace Go.Proofs.YtcoakhahjdnlfaaDoor
set_option linter.all false
open Go.RowKit
namespace Tk
theorem drop_at (s : ByteArray) (k : Nat) (hk : k < s.size) : s.data.toList.drop k = s[k] :: s.data.toList.drop (k + 1) := by
  rw [List.drop_eq_getElem_cons (by simpa using hk)]; rfl
theorem run_in (s : ByteArray) (p : UInt8 → Bool) (k : Nat) (hk : k < s.size) (hp : p s[k] = true)
    (h : (s.data.toList.takeWhile p).length = k + ((s.data.toList.drop k).takeWhile p).length) :
    (s.data.toList.takeWhile p).length = (k + 1) + ((s.data.toList.drop (k + 1)).takeWhile p).length := by
  rw [drop_at s k hk, List.takeWhile_cons, if_pos hp, List.length_cons] at h; omega
theorem run_out (s : ByteArray) (p : UInt8 → Bool) (k : Nat) (hk : k < s.size) (hp : p s[k] = false)
    (h : (s.data.toList.takeWhile p).length = k + ((s.data.toList.drop k).takeWhile p).length) :
    (s.data.toList.takeWhile p).length = k := by
  rw [drop_at s k hk, List.takeWhile_cons, if_neg (by simp [hp])] at h; simpa using h
theorem run_end (s : ByteArray) (p : UInt8 → Bool) (k : Nat) (hk : ¬ k < s.size)
    (h : (s.data.toList.takeWhile p).length = k + ((s.data.toList.drop k).takeWhile p).length) :
    (s.data.toList.takeWhile p).length = k := by
  rw [List.drop_eq_nil_of_le (by simp; omega)] at h; simpa using h
end Tk
theorem run_any (s : ByteArray) (b : Nat) (p : UInt8 → Bool) (w : World) (hs : s.size < 4294967281) (hb : b < w.heap.size) (hc : ∀ c : UInt8, w.cell? ⟨b, c.toNat, none⟩ = some (.bool (p c))) :
    Calls Tryd.prog 41 #[.string s, .pointer (some ⟨b, 0, none⟩)] w fun e w' => e = .returned (.int .i64 (s.data.toList.takeWhile p).length) ∧ ∃ n, w' = w.drewN n := by
  go_enter Tryd.func41, Tryd.ntmps41
  go_wp2
  go_loopw [5] (fun i wr => ∃ k m : Nat, k ≤ s.size ∧ i = .int .i64 k ∧ wr = w.drewN m ∧ Hid ((s.data.toList.takeWhile p).length = k + ((s.data.toList.drop k).takeWhile p).length)) (fun i _ => s.size - (intOf i).toNat)
  case atStart => exact ⟨0, 0, Nat.zero_le _, rfl, rfl, Lib.hid (by simp)⟩
  case round =>
    obtain ⟨k, m, hk, rfl, rfl, H⟩ := hrel
    by_cases hlt : k < s.size
    · have h256 : s[k].toNat < 256 := UInt8.toNat_lt _
      have hcell := hc s[k]
      by_cases hp : p s[k] = true
      · rw [hp] at hcell
        have H2 := Lib.hid (Tk.run_in s p k hlt hp H.out)
        clear H
        go_wp2_with fail
        go_quiet (fail)
        go_wp2
        go_round
        case rel => exact ⟨k + 1, _, by omega, by go_num, rfl, H2⟩
        case measure => simp [intOf]; omega
      · have hp' : p s[k] = false := by simpa using hp
        rw [hp'] at hcell
        have H2 := Lib.hid (Tk.run_out s p k hlt hp' H.out)
        clear H
        go_wp2_with fail
        go_quiet (fail)
        go_wp2
        go_ret
        exact ⟨by rw [H2.out]; rfl, m + nq, World.drewN_drewN ..⟩
    · have H2 := Lib.hid (Tk.run_end s p k hlt H.out)
      clear H
      go_wp2_with fail
      go_quiet (fail)
      go_wp2
      go_ret
      exact ⟨by rw [H2.out]; rfl, m + nq, World.drewN_drewN ..⟩
namespace Tk
theorem cmt_step (s : ByteArray) (k : Nat) (d : Int) (hk : k + 1 < s.size) : Tk.cmt (s.data.toList.drop k) d =
    if s[k] = 40 ∧ s[k + 1] = 42 then (Tk.cmt (s.data.toList.drop (k + 2)) (d + 1)).map (· + 2)
    else if s[k] = 42 ∧ s[k + 1] = 41 then (if d = 1 then some 2 else (Tk.cmt (s.data.toList.drop (k + 2)) (d - 1)).map (· + 2))
    else (Tk.cmt (s.data.toList.drop (k + 1)) d).map (· + 1) := by
  rw [drop_at s k (by omega), drop_at s (k + 1) hk, Tk.cmt]
theorem cmt_end (s : ByteArray) (k : Nat) (d : Int) (hk : ¬ k + 1 < s.size) : Tk.cmt (s.data.toList.drop k) d = none := by
  have : (s.data.toList.drop k).length ≤ 1 := by simp; omega
  match h : s.data.toList.drop k, this with
  | [], _ => rfl
  | [_], _ => rfl
theorem pair_eq (s : ByteArray) (k : Nat) (hk : k + 1 < s.size) (a b : UInt8) : s.extract k (k + 2) = ⟨#[a, b]⟩ ↔ s[k] = a ∧ s[k + 1] = b := by
  have h : (s.extract k (k + 2)).data.toList = [s[k], s[k + 1]] := by
    have := Lib.extract_toList s k (k + 2)
    rw [ByteArray.toList_eq] at this
    rw [this, drop_at s k (by omega), drop_at s (k + 1) hk, show k + 2 - k = 2 by omega]
    simp
  constructor
  · intro e; rw [e] at h; simp at h; exact ⟨h.1.symm, h.2.symm⟩
  · rintro ⟨rfl, rfl⟩
    have : (s.extract k (k + 2)).data.toList = (⟨#[s[k], s[k + 1]]⟩ : ByteArray).data.toList := by rw [h]
    cases hx : s.extract k (k + 2) with
    | mk d => rw [hx] at this; simp only [ByteArray.mk.injEq]; exact Array.toList_inj.1 this
end Tk
end Go.Proofs.YtcoakhahjdnlfaaDoor
