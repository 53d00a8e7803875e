/- The walk of the document's comment. Conditions: the text's size is bounded; the place lies in it. -/
import Derived.Test.YtcoakhahjdnlfaaDoorTokC
namespace Go.Proofs.YtcoakhahjdnlfaaDoor
set_option linter.all false
open Go.RowKit
/-- where a comment that begins at a place ends; -1: nowhere -/
def Tk.cend (l : List UInt8) (p : Nat) : Int := match Tk.cmt (l.drop p) 0 with | some n => ((n + p : Nat) : Int) | none => -1
theorem Tk.cend_some {l : List UInt8} {p n : Nat} (h : Tk.cmt (l.drop p) 0 = some n) : Tk.cend l p = ((n + p : Nat) : Int) := by simp [Tk.cend, h]
theorem Tk.cend_none {l : List UInt8} {p : Nat} (h : Tk.cmt (l.drop p) 0 = none) : Tk.cend l p = -1 := by simp [Tk.cend, h]
theorem rcomment_any (s : ByteArray) (p : Nat) (w : World) (hs : s.size < 4294967281) (hp : p ≤ s.size) :
    Calls Tryd.prog 46 #[.string s, .int .i64 p] w fun e w' => e = .returned (.int .i64 (Tk.cend s.data.toList p)) ∧ w' = w := by
  go_enter Tryd.func46, Tryd.ntmps46
  go_wp2
  go_loop [1, 5] (fun i o => ∃ (k : Nat) (d : Int), p + k ≤ s.size ∧ i = .int .i64 ((p + k : Nat) : Int) ∧ o = .int .i64 d ∧ (-(k : Int) ≤ d ∧ d ≤ k) ∧ Hid (Tk.cmt (s.data.toList.drop p) 0 = (Tk.cmt (s.data.toList.drop (p + k)) d).map (· + k))) (fun i _ => s.size - (intOf i).toNat)
  case atStart => exact ⟨0, 0, by omega, rfl, rfl, by omega, Lib.hid (by simp)⟩
  case round =>
    obtain ⟨k, d, hk, rfl, rfl, hd, H⟩ := hrel
    generalize hq : p + k = q at hk H
    by_cases hlt : q + 1 < s.size
    · have HE := Lib.hid (Tk.cmt_step s q d hlt)
      by_cases h1 : s.extract q (q + 2) = ⟨#[40, 42]⟩
      · have h1' := Lib.hid ((Tk.pair_eq s q hlt 40 42).1 h1)
        go_wp2
        go_round
        case rel => exact ⟨k + 2, d + 1, by omega, by subst hq; go_num, by go_num, by omega, Lib.hid (by subst hq; rw [H.out, HE.out, if_pos h1'.out, Option.map_map]; congr 1; funext x; simp; omega)⟩
        case measure => simp [intOf]; omega
      · have hb1 : ((s.extract q (q + 2)).toList == [40, 42]) = false := ne_bytes h1
        have hn1 := Lib.hid (fun h => h1 ((Tk.pair_eq s q hlt 40 42).2 h))
        by_cases h2 : s.extract q (q + 2) = ⟨#[42, 41]⟩
        · have h2' := Lib.hid ((Tk.pair_eq s q hlt 42 41).1 h2)
          by_cases hd1 : d = 1
          · subst hd1
            have HV := Lib.hid (show Tk.cend s.data.toList p = ((2 + k + p : Nat) : Int) from Tk.cend_some (by rw [H.out, HE.out, if_neg hn1.out, if_pos h2'.out, if_pos rfl]; rfl))
            clear HE H
            go_wp2
            go_ret
            exact ⟨by rw [HV.out]; show Ending.returned (.int .i64 _) = .returned (.int .i64 _); congr 2; omega, rfl⟩
          · have hd2 : (d - 1 == 0) = false := by simp; omega
            go_wp2
            go_round
            case rel => exact ⟨k + 2, d - 1, by omega, by subst hq; go_num, by go_num, by omega, Lib.hid (by subst hq; rw [H.out, HE.out, if_neg hn1.out, if_pos h2'.out, if_neg hd1, Option.map_map]; congr 1; funext x; simp; omega)⟩
            case measure => simp [intOf]; omega
        · have hb2 : ((s.extract q (q + 2)).toList == [42, 41]) = false := ne_bytes h2
          have hn2 := Lib.hid (fun h => h2 ((Tk.pair_eq s q hlt 42 41).2 h))
          go_wp2
          go_round
          case rel => exact ⟨k + 1, d, by omega, by subst hq; go_num, rfl, by omega, Lib.hid (by subst hq; rw [H.out, HE.out, if_neg hn1.out, if_neg hn2.out, Option.map_map]; congr 1; funext x; simp; omega)⟩
          case measure => simp [intOf]; omega
    · have HV := Lib.hid (show Tk.cend s.data.toList p = -1 from Tk.cend_none (by rw [H.out, Tk.cmt_end s q d hlt]; rfl))
      go_wp2
      go_ret
      exact ⟨by rw [HV.out]; rfl, rfl⟩
end Go.Proofs.YtcoakhahjdnlfaaDoor
