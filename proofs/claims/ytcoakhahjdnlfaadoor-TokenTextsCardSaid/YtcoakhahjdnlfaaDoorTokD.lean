/- The walks of the token package's small functions: run, comment, and of the document's answer: comment, skip. The walks of the two functions that pass a comment. Conditions: the text's size is bounded. The walk of the document's comment. Conditions: the text's size is bounded; the place lies in it. -/
import Derived.Test.YtcoakhahjdnlfaaDoorChecked
import Derived.Test.YtcoakhahjdnlfaaDoorTokP
import Derived.Test.YtcoakhahjdnlfaaDoorMoreW
import Derived.BigQuiet
import Derived.Deep.QuietTactic
import Derived.WalkLawsBesides
import Derived.WalkSpells
import Derived.Handy
import Derived.Lib.Hide
import Derived.Lib.Strings
namespace Go.Proofs.YtcoakhahjdnlfaaDoor
set_option linter.all false
open Go.RowKit
namespace Tk
theorem drop_at (s : ByteArray) (k : Nat) (hk : k < s.size) : s.data.toList.drop k = s[k] :: s.data.toList.drop (k + 1) := by
  rw [List.drop_eq_getElem_cons (by simpa using hk)]; rfl
theorem runin (s : ByteArray) (p : UInt8 → Bool) (k : Nat) (hk : k < s.size) (hp : p s[k] = true)
    (h : (s.data.toList.takeWhile p).length = k + ((s.data.toList.drop k).takeWhile p).length) :
    (s.data.toList.takeWhile p).length = (k + 1) + ((s.data.toList.drop (k + 1)).takeWhile p).length := by
  rw [drop_at s k hk, List.takeWhile_cons, if_pos hp, List.length_cons] at h; omega
theorem run_out (s : ByteArray) (p : UInt8 → Bool) (k : Nat) (hk : k < s.size) (hp : p s[k] = false)
    (h : (s.data.toList.takeWhile p).length = k + ((s.data.toList.drop k).takeWhile p).length) :
    (s.data.toList.takeWhile p).length = k := by
  rw [drop_at s k hk, List.takeWhile_cons, if_neg (by simp [hp])] at h; simpa using h
theorem run_end (s : ByteArray) (p : UInt8 → Bool) (k : Nat) (hk : ¬ k < s.size)
    (h : (s.data.toList.takeWhile p).length = k + ((s.data.toList.drop k).takeWhile p).length) :
    (s.data.toList.takeWhile p).length = k := by
  rw [List.drop_eq_nil_of_le (by simp; omega)] at h; simpa using h
end Tk
theorem run_any (s : ByteArray) (b : Nat) (p : UInt8 → Bool) (w : World) (hs : s.size < 4294967281) (hb : b < w.heap.size) (hc : ∀ c : UInt8, w.cell? ⟨b, c.toNat, none⟩ = some (.bool (p c))) :
    Calls Tryd.prog 41 #[.string s, .pointer (some ⟨b, 0, none⟩)] w fun e w' => e = .returned (.int .i64 (s.data.toList.takeWhile p).length) ∧ ∃ n, w' = w.drewN n := by
  go_enter Tryd.func41, Tryd.ntmps41
  go_wp2
  go_loopw [5] (fun i wr => ∃ k m : Nat, k ≤ s.size ∧ i = .int .i64 k ∧ wr = w.drewN m ∧ Hid ((s.data.toList.takeWhile p).length = k + ((s.data.toList.drop k).takeWhile p).length)) (fun i _ => s.size - (intOf i).toNat)
  case atStart => exact ⟨0, 0, Nat.zero_le _, rfl, rfl, Lib.hid (by simp)⟩
  case round =>
    obtain ⟨k, m, hk, rfl, rfl, H⟩ := hrel
    by_cases hlt : k < s.size
    · have h256 : s[k].toNat < 256 := UInt8.toNat_lt _
      have hcell := hc s[k]
      by_cases hp : p s[k] = true
      · rw [hp] at hcell
        have H2 := Lib.hid (Tk.runin s p k hlt hp H.out)
        clear H
        go_wp2_with fail
        go_quiet (fail)
        go_wp2
        go_round
        case rel => exact ⟨k + 1, _, by omega, by go_num, rfl, H2⟩
        case measure => simp [intOf]; omega
      · have hp' : p s[k] = false := by simpa using hp
        rw [hp'] at hcell
        have H2 := Lib.hid (Tk.run_out s p k hlt hp' H.out)
        clear H
        go_wp2_with fail
        go_quiet (fail)
        go_wp2
        go_ret
        exact ⟨by rw [H2.out]; rfl, m + nq, World.drewN_drewN ..⟩
    · have H2 := Lib.hid (Tk.run_end s p k hlt H.out)
      clear H
      go_wp2_with fail
      go_quiet (fail)
      go_wp2
      go_ret
      exact ⟨by rw [H2.out]; rfl, m + nq, World.drewN_drewN ..⟩
namespace Tk
theorem cmt_step (s : ByteArray) (k : Nat) (d : Int) (hk : k + 1 < s.size) : Tk.cmt (s.data.toList.drop k) d =
    if s[k] = 40 ∧ s[k + 1] = 42 then (Tk.cmt (s.data.toList.drop (k + 2)) (d + 1)).map (· + 2)
    else if s[k] = 42 ∧ s[k + 1] = 41 then (if d = 1 then some 2 else (Tk.cmt (s.data.toList.drop (k + 2)) (d - 1)).map (· + 2))
    else (Tk.cmt (s.data.toList.drop (k + 1)) d).map (· + 1) := by
  rw [drop_at s k (by omega), drop_at s (k + 1) hk, Tk.cmt]
theorem cmt_end (s : ByteArray) (k : Nat) (d : Int) (hk : ¬ k + 1 < s.size) : Tk.cmt (s.data.toList.drop k) d = none := by
  have : (s.data.toList.drop k).length ≤ 1 := by simp; omega
  match h : s.data.toList.drop k, this with
  | [], _ => rfl
  | [_], _ => rfl
theorem pair_eq (s : ByteArray) (k : Nat) (hk : k + 1 < s.size) (a b : UInt8) : s.extract k (k + 2) = ⟨#[a, b]⟩ ↔ s[k] = a ∧ s[k + 1] = b := by
  have h : (s.extract k (k + 2)).data.toList = [s[k], s[k + 1]] := by
    have := Lib.extract_toList s k (k + 2)
    rw [ByteArray.toList_eq] at this
    rw [this, drop_at s k (by omega), drop_at s (k + 1) hk, show k + 2 - k = 2 by omega]
    simp
  constructor
  · intro e; rw [e] at h; simp at h; exact ⟨h.1.symm, h.2.symm⟩
  · rintro ⟨rfl, rfl⟩
    have : (s.extract k (k + 2)).data.toList = (⟨#[s[k], s[k + 1]]⟩ : ByteArray).data.toList := by rw [h]
    cases hx : s.extract k (k + 2) with
    | mk d => rw [hx] at this; simp only [ByteArray.mk.injEq]; exact Array.toList_inj.1 this
end Tk
end Go.Proofs.YtcoakhahjdnlfaaDoor

namespace Go.Proofs.YtcoakhahjdnlfaaDoor
set_option linter.all false
open Go.RowKit
theorem ne_bytes {x : ByteArray} {l : List UInt8} (h : ¬ x = ⟨l.toArray⟩) : (x.toList == l) = false := by
  rw [Bool.eq_false_iff]
  intro e
  apply h
  have e := eq_of_beq e
  rw [ByteArray.toList_eq] at e
  cases x with
  | mk d => simp only [ByteArray.mk.injEq]; exact Array.toList_inj.1 (by simpa using e)
theorem comment_any (s : ByteArray) (w : World) (hs : s.size < 4294967281) :
    Calls Tryd.prog 22 #[.string s] w fun e w' => e = .returned (.int .i64 ((Tk.cmt s.data.toList 0).getD 0)) ∧ w' = w := by
  go_enter Tryd.func22, Tryd.ntmps22
  go_wp2
  go_loop [3, 4] (fun o i => ∃ (k : Nat) (d : Int), k ≤ s.size ∧ i = .int .i64 k ∧ o = .int .i64 d ∧ (-(k : Int) ≤ d ∧ d ≤ k) ∧ Hid (Tk.cmt s.data.toList 0 = (Tk.cmt (s.data.toList.drop k) d).map (· + k))) (fun _ i => s.size - (intOf i).toNat)
  case atStart => exact ⟨0, 0, Nat.zero_le _, rfl, rfl, by omega, Lib.hid (by simp)⟩
  case round =>
    obtain ⟨k, d, hk, rfl, rfl, hd, H⟩ := hrel
    by_cases hlt : k + 1 < s.size
    · have HE := Lib.hid (Tk.cmt_step s k d hlt)
      by_cases h1 : s.extract k (k + 2) = ⟨#[40, 42]⟩
      · have h1' := Lib.hid ((Tk.pair_eq s k hlt 40 42).1 h1)
        go_wp2
        go_round
        case rel => exact ⟨k + 2, d + 1, by omega, by go_num, by go_num, by omega, Lib.hid (by rw [H.out, HE.out, if_pos h1'.out, Option.map_map]; congr 1; funext x; simp; omega)⟩
        case measure => simp [intOf]; omega
      · have hb1 : ((s.extract k (k + 2)).toList == [40, 42]) = false := ne_bytes h1
        have hn1 := Lib.hid (fun h => h1 ((Tk.pair_eq s k hlt 40 42).2 h))
        by_cases h2 : s.extract k (k + 2) = ⟨#[42, 41]⟩
        · have h2' := Lib.hid ((Tk.pair_eq s k hlt 42 41).1 h2)
          by_cases hd1 : d = 1
          · subst hd1
            have HV := Lib.hid (show Tk.cmt s.data.toList 0 = some (2 + k) by rw [H.out, HE.out, if_neg hn1.out, if_pos h2'.out, if_pos rfl]; rfl)
            clear HE H
            go_wp2
            go_ret
            exact ⟨by rw [HV.out]; show Ending.returned (.int .i64 _) = .returned (.int .i64 _); congr 2; simp; omega, rfl⟩
          · have hd2 : (d - 1 == 0) = false := by simp; omega
            go_wp2
            go_round
            case rel => exact ⟨k + 2, d - 1, by omega, by go_num, by go_num, by omega, Lib.hid (by rw [H.out, HE.out, if_neg hn1.out, if_pos h2'.out, if_neg hd1, Option.map_map]; congr 1; funext x; simp; omega)⟩
            case measure => simp [intOf]; omega
        · have hb2 : ((s.extract k (k + 2)).toList == [42, 41]) = false := ne_bytes h2
          have hn2 := Lib.hid (fun h => h2 ((Tk.pair_eq s k hlt 42 41).2 h))
          go_wp2
          go_round
          case rel => exact ⟨k + 1, d, by omega, by go_num, rfl, by omega, Lib.hid (by rw [H.out, HE.out, if_neg hn1.out, if_neg hn2.out, Option.map_map]; congr 1; funext x; simp; omega)⟩
          case measure => simp [intOf]; omega
    · have HE := Lib.hid (Tk.cmt_end s k d hlt)
      go_wp2
      go_ret
      exact ⟨by rw [H.out, HE.out]; rfl, rfl⟩
end Go.Proofs.YtcoakhahjdnlfaaDoor

namespace Go.Proofs.YtcoakhahjdnlfaaDoor
set_option linter.all false
open Go.RowKit
/-- where a comment that begins at a place ends; -1: nowhere -/
def Tk.cend (l : List UInt8) (p : Nat) : Int := match Tk.cmt (l.drop p) 0 with | some n => ((n + p : Nat) : Int) | none => -1
theorem Tk.cend_some {l : List UInt8} {p n : Nat} (h : Tk.cmt (l.drop p) 0 = some n) : Tk.cend l p = ((n + p : Nat) : Int) := by simp [Tk.cend, h]
theorem Tk.cend_none {l : List UInt8} {p : Nat} (h : Tk.cmt (l.drop p) 0 = none) : Tk.cend l p = -1 := by simp [Tk.cend, h]
theorem rcomment_any (s : ByteArray) (p : Nat) (w : World) (hs : s.size < 4294967281) (hp : p ≤ s.size) :
    Calls Tryd.prog 46 #[.string s, .int .i64 p] w fun e w' => e = .returned (.int .i64 (Tk.cend s.data.toList p)) ∧ w' = w := by
  go_enter Tryd.func46, Tryd.ntmps46
  go_wp2
  go_loop [1, 5] (fun i o => ∃ (k : Nat) (d : Int), p + k ≤ s.size ∧ i = .int .i64 ((p + k : Nat) : Int) ∧ o = .int .i64 d ∧ (-(k : Int) ≤ d ∧ d ≤ k) ∧ Hid (Tk.cmt (s.data.toList.drop p) 0 = (Tk.cmt (s.data.toList.drop (p + k)) d).map (· + k))) (fun i _ => s.size - (intOf i).toNat)
  case atStart => exact ⟨0, 0, by omega, rfl, rfl, by omega, Lib.hid (by simp)⟩
  case round =>
    obtain ⟨k, d, hk, rfl, rfl, hd, H⟩ := hrel
    generalize hq : p + k = q at hk H
    by_cases hlt : q + 1 < s.size
    · have HE := Lib.hid (Tk.cmt_step s q d hlt)
      by_cases h1 : s.extract q (q + 2) = ⟨#[40, 42]⟩
      · have h1' := Lib.hid ((Tk.pair_eq s q hlt 40 42).1 h1)
        go_wp2
        go_round
        case rel => exact ⟨k + 2, d + 1, by omega, by subst hq; go_num, by go_num, by omega, Lib.hid (by subst hq; rw [H.out, HE.out, if_pos h1'.out, Option.map_map]; congr 1; funext x; simp; omega)⟩
        case measure => simp [intOf]; omega
      · have hb1 : ((s.extract q (q + 2)).toList == [40, 42]) = false := ne_bytes h1
        have hn1 := Lib.hid (fun h => h1 ((Tk.pair_eq s q hlt 40 42).2 h))
        by_cases h2 : s.extract q (q + 2) = ⟨#[42, 41]⟩
        · have h2' := Lib.hid ((Tk.pair_eq s q hlt 42 41).1 h2)
          by_cases hd1 : d = 1
          · subst hd1
            have HV := Lib.hid (show Tk.cend s.data.toList p = ((2 + k + p : Nat) : Int) from Tk.cend_some (by rw [H.out, HE.out, if_neg hn1.out, if_pos h2'.out, if_pos rfl]; rfl))
            clear HE H
            go_wp2
            go_ret
            exact ⟨by rw [HV.out]; show Ending.returned (.int .i64 _) = .returned (.int .i64 _); congr 2; omega, rfl⟩
          · have hd2 : (d - 1 == 0) = false := by simp; omega
            go_wp2
            go_round
            case rel => exact ⟨k + 2, d - 1, by omega, by subst hq; go_num, by go_num, by omega, Lib.hid (by subst hq; rw [H.out, HE.out, if_neg hn1.out, if_pos h2'.out, if_neg hd1, Option.map_map]; congr 1; funext x; simp; omega)⟩
            case measure => simp [intOf]; omega
        · have hb2 : ((s.extract q (q + 2)).toList == [42, 41]) = false := ne_bytes h2
          have hn2 := Lib.hid (fun h => h2 ((Tk.pair_eq s q hlt 42 41).2 h))
          go_wp2
          go_round
          case rel => exact ⟨k + 1, d, by omega, by subst hq; go_num, rfl, by omega, Lib.hid (by subst hq; rw [H.out, HE.out, if_neg hn1.out, if_neg hn2.out, Option.map_map]; congr 1; funext x; simp; omega)⟩
          case measure => simp [intOf]; omega
    · have HV := Lib.hid (show Tk.cend s.data.toList p = -1 from Tk.cend_none (by rw [H.out, Tk.cmt_end s q d hlt]; rfl))
      go_wp2
      go_ret
      exact ⟨by rw [HV.out]; rfl, rfl⟩
end Go.Proofs.YtcoakhahjdnlfaaDoor
