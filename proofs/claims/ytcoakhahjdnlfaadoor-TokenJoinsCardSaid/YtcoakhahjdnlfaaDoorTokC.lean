/- The walks of the two functions that pass a comment. Conditions: the text's size is bounded. -/
import Derived.Test.YtcoakhahjdnlfaaDoorTokW
namespace Go.Proofs.YtcoakhahjdnlfaaDoor
set_option linter.all false
open Go.RowKit
theorem ne_bytes {x : ByteArray} {l : List UInt8} (h : ¬ x = ⟨l.toArray⟩) : (x.toList == l) = false := by
  rw [Bool.eq_false_iff]
  intro e
  apply h
  have e := eq_of_beq e
  rw [ByteArray.toList_eq] at e
  cases x with
  | mk d => simp only [ByteArray.mk.injEq]; exact Array.toList_inj.1 (by simpa using e)
theorem comment_any (s : ByteArray) (w : World) (hs : s.size < 4294967281) :
    Calls Tryd.prog 22 #[.string s] w fun e w' => e = .returned (.int .i64 ((Tk.cmt s.data.toList 0).getD 0)) ∧ w' = w := by
  go_enter Tryd.func22, Tryd.ntmps22
  go_wp2
  go_loop [3, 4] (fun o i => ∃ (k : Nat) (d : Int), k ≤ s.size ∧ i = .int .i64 k ∧ o = .int .i64 d ∧ (-(k : Int) ≤ d ∧ d ≤ k) ∧ Hid (Tk.cmt s.data.toList 0 = (Tk.cmt (s.data.toList.drop k) d).map (· + k))) (fun _ i => s.size - (intOf i).toNat)
  case atStart => exact ⟨0, 0, Nat.zero_le _, rfl, rfl, by omega, Lib.hid (by simp)⟩
  case round =>
    obtain ⟨k, d, hk, rfl, rfl, hd, H⟩ := hrel
    by_cases hlt : k + 1 < s.size
    · have HE := Lib.hid (Tk.cmt_step s k d hlt)
      by_cases h1 : s.extract k (k + 2) = ⟨#[40, 42]⟩
      · have h1' := Lib.hid ((Tk.pair_eq s k hlt 40 42).1 h1)
        go_wp2
        go_round
        case rel => exact ⟨k + 2, d + 1, by omega, by go_num, by go_num, by omega, Lib.hid (by rw [H.out, HE.out, if_pos h1'.out, Option.map_map]; congr 1; funext x; simp; omega)⟩
        case measure => simp [intOf]; omega
      · have hb1 : ((s.extract k (k + 2)).toList == [40, 42]) = false := ne_bytes h1
        have hn1 := Lib.hid (fun h => h1 ((Tk.pair_eq s k hlt 40 42).2 h))
        by_cases h2 : s.extract k (k + 2) = ⟨#[42, 41]⟩
        · have h2' := Lib.hid ((Tk.pair_eq s k hlt 42 41).1 h2)
          by_cases hd1 : d = 1
          · subst hd1
            have HV := Lib.hid (show Tk.cmt s.data.toList 0 = some (2 + k) by rw [H.out, HE.out, if_neg hn1.out, if_pos h2'.out, if_pos rfl]; rfl)
            clear HE H
            go_wp2
            go_ret
            exact ⟨by rw [HV.out]; show Ending.returned (.int .i64 _) = .returned (.int .i64 _); congr 2; simp; omega, rfl⟩
          · have hd2 : (d - 1 == 0) = false := by simp; omega
            go_wp2
            go_round
            case rel => exact ⟨k + 2, d - 1, by omega, by go_num, by go_num, by omega, Lib.hid (by rw [H.out, HE.out, if_neg hn1.out, if_pos h2'.out, if_neg hd1, Option.map_map]; congr 1; funext x; simp; omega)⟩
            case measure => simp [intOf]; omega
        · have hb2 : ((s.extract k (k + 2)).toList == [42, 41]) = false := ne_bytes h2
          have hn2 := Lib.hid (fun h => h2 ((Tk.pair_eq s k hlt 42 41).2 h))
          go_wp2
          go_round
          case rel => exact ⟨k + 1, d, by omega, by go_num, rfl, by omega, Lib.hid (by rw [H.out, HE.out, if_neg hn1.out, if_neg hn2.out, Option.map_map]; congr 1; funext x; simp; omega)⟩
          case measure => simp [intOf]; omega
    · have HE := Lib.hid (Tk.cmt_end s k d hlt)
      go_wp2
      go_ret
      exact ⟨by rw [H.out, HE.out]; rfl, rfl⟩
end Go.Proofs.YtcoakhahjdnlfaaDoor
