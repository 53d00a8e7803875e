/- The walk of the law TokenJoins. Conditions: the library's variables are as they were laid; the texts are no longer than a text may be. -/
import Derived.Test.YtcoakhahjdnlfaaDoorLwTa
import Derived.Test.YtcoakhahjdnlfaaDoorTokPl
namespace Go.Proofs.YtcoakhahjdnlfaaDoor
set_option linter.all false
open Go.RowKit
namespace Tk
/-- a token d bytes further on -/
def sh (d : Nat) (t : Tok) : Tok := (t.1, t.2.1, t.2.2.1, t.2.2.2 + (d : Int))
theorem lexR_small {s : ByteArray} (h : s.size ≤ 5000) : lexR s = lexF s.data.toList 0 0 := by simp [lexR]; omega
theorem join_list (s t : ByteArray) : (s ++ (⟨#[10]⟩ : ByteArray) ++ t).data.toList = s.data.toList ++ 10 :: t.data.toList := by
  simp [ByteArray.data_append]
theorem join_size (s t : ByteArray) : (s ++ (⟨#[10]⟩ : ByteArray) ++ t).size = s.size + 1 + t.size := by
  simp only [ByteArray.size_append]; rfl
/-- the tokens of both texts with a line's end between -/
theorem joins {s t : ByteArray} (h : s.size + t.size ≤ 4000) {r : List Tok} (hr : lexR s = .ok r) : lexR (s ++ (⟨#[10]⟩ : ByteArray) ++ t) = pre r (shiftR (s.size + 1) (lexR t)) := by
  rw [lexR_small (by omega)] at hr
  rw [lexR_small (by rw [join_size]; omega), lexR_small (s := t) (by omega), join_list]
  have h1 := (lex_ats _ _ _ _ hr).2.2
  have hsl : s.data.toList.length = s.size := by simp
  have htl : t.data.toList.length = t.size := by simp
  rw [lex_line t.data.toList s.data.toList 0 0 r hr, hsl]
  have := lex_shift (s.size + 1) t.data.toList 0 0 r.length (by omega) (by omega)
  simp only [Nat.zero_add] at this ⊢
  rw [this]
  cases lexF t.data.toList 0 0 <;> rfl
theorem joins_no {s t : ByteArray} (h : s.size + t.size ≤ 4000) {q : Nat} {e : Int} (hr : lexR s = .error (q, e)) {r : List Tok} (h3 : lexR (s ++ (⟨#[10]⟩ : ByteArray) ++ t) = .ok r) : e = 90 := by
  rw [lexR_small (by omega)] at hr
  rw [lexR_small (by rw [join_size]; omega), join_list] at h3
  by_cases he : e = 90
  · exact he
  · rw [lex_line_err t.data.toList _ _ _ _ _ hr he] at h3; cases h3
theorem lexR_ne {s : ByteArray} (h : s.size ≤ 5000) {q : Nat} {e : Int} (hr : lexR s = .error (q, e)) : e ≠ 0 ∧ (q < s.size) := by
  rw [lexR_small h] at hr
  have := lex_err_at _ _ _ _ _ hr
  exact ⟨this.2.2, by have := this.2.1; simpa using this⟩
end Tk
theorem lex_gen {s : ByteArray} (hs : s.size < 4294967281) (w : World) (hg : Gs w) :
    Calls Tryd.prog 11 #[.string s] w fun e w' => (∃ a l c p k, e = .returned (.tuple #[.slice a l c, .int .i64 p, .int .i64 k])) ∧ ∃ g, w' = more w g := by
  refine (lex_any s w hg hs).mono ?_
  rintro e w' ⟨h1, h2⟩
  refine ⟨?_, h2⟩
  unfold Tk.LexRet at h1
  split at h1
  · obtain ⟨v, rfl, -, -, ho⟩ := h1
    obtain ⟨a, cap, rfl, -⟩ := owns_form ho
    exact ⟨_, _, _, _, _, rfl⟩
  · exact ⟨_, _, _, _, _, h1⟩
set_option maxRecDepth 100000 in
set_option maxHeartbeats 3200000 in
theorem Joins_no (s t : ByteArray) (w : World) (hg : Gs w) (hst : s.size + t.size ≤ 4000) {q : Nat} {ec : Int} (hR : Tk.lexR s = .error (q, ec)) :
    Calls Tryd.prog 6 #[.string s, .string t] w fun e w' => e = .returned (.bool true) ∧ Below w.heap.size w w' := by
  have HG := Lib.hid hg
  clear hg
  have hb1 : (s.size : Int) + (t.size : Int) ≤ 4000 := by omega
  have he := (Tk.lexR_ne (by omega) hR).1
  have e1 : (ec != 0) = true := by simp [he]
  have HA := Lib.hid (fun W hg => lex_no hR (by omega) W hg)
  have HB := Lib.hid (fun W hg => lex_gen (s := t) (by omega) W hg)
  have hs3 := Tk.join_size s t
  cases hR3 : Tk.lexR (s ++ (⟨#[10]⟩ : ByteArray) ++ t) with
  | error x =>
    obtain ⟨p3, e3⟩ := x
    have h3 := (Tk.lexR_ne (by omega) hR3).1
    have e2 : (e3 != 0) = true := by simp [h3]
    have HC := Lib.hid (fun W hg => lex_no hR3 (by omega) W hg)
    clear hR hR3 he h3
    go_enter Tryd.func6, Tryd.ntmps6
    go_wp2_with (first
      | (go_at_call 11; first
          | ((with_reducible refine (HA.out _ ?_).mono ?_); (focus (exact HG.out.below (by repeat' (first | (with_reducible exact Below.refl _ _) | (with_reducible assumption) | (with_reducible refine below_more ?_ ?_ _) | (with_reducible refine below_drewN ?_ _) | (with_reducible refine Below.drew ?_) | (with_reducible refine Below.alloc ?_ ?_ _) | (with_reducible refine Below.setCell ?_ ?_ _) | go_size | (simp [more_size]; done) | (simp [more_size]; omega))))); rintro e w2 ⟨rfl, g, rfl⟩)
          | ((with_reducible refine (HC.out _ ?_).mono ?_); (focus (exact HG.out.below (by repeat' (first | (with_reducible exact Below.refl _ _) | (with_reducible assumption) | (with_reducible refine below_more ?_ ?_ _) | (with_reducible refine below_drewN ?_ _) | (with_reducible refine Below.drew ?_) | (with_reducible refine Below.alloc ?_ ?_ _) | (with_reducible refine Below.setCell ?_ ?_ _) | go_size | (simp [more_size]; done) | (simp [more_size]; omega))))); rintro e w2 ⟨rfl, g, rfl⟩)
          | ((with_reducible refine (HB.out _ ?_).mono ?_); (focus (exact HG.out.below (by repeat' (first | (with_reducible exact Below.refl _ _) | (with_reducible assumption) | (with_reducible refine below_more ?_ ?_ _) | (with_reducible refine below_drewN ?_ _) | (with_reducible refine Below.drew ?_) | (with_reducible refine Below.alloc ?_ ?_ _) | (with_reducible refine Below.setCell ?_ ?_ _) | go_size | (simp [more_size]; done) | (simp [more_size]; omega))))); rintro e w2 ⟨⟨a2, l2, c2, p2, k2, rfl⟩, g, rfl⟩))
      | (go_at_call 10; (with_reducible refine (wakes9_any _ ?_).mono ?_); (focus (exact HG.out.below (by repeat' (first | (with_reducible exact Below.refl _ _) | (with_reducible assumption) | (with_reducible refine below_more ?_ ?_ _) | (with_reducible refine below_drewN ?_ _) | (with_reducible refine Below.drew ?_) | (with_reducible refine Below.alloc ?_ ?_ _) | (with_reducible refine Below.setCell ?_ ?_ _) | go_size | (simp [more_size]; done) | (simp [more_size]; omega))))); rintro e w2 ⟨rfl, g, rfl⟩))
    go_ret
    exact ⟨rfl, (by repeat' (first | (with_reducible exact Below.refl _ _) | (with_reducible assumption) | (with_reducible refine below_more ?_ ?_ _) | (with_reducible refine below_drewN ?_ _) | (with_reducible refine Below.drew ?_) | (with_reducible refine Below.alloc ?_ ?_ _) | (with_reducible refine Below.setCell ?_ ?_ _) | go_size | (simp [more_size]; done) | (simp [more_size]; omega)))⟩
  | ok ts =>
    have h90 := Tk.joins_no hst hR hR3
    subst h90
    have HC := Lib.hid (fun W hg => lex_ok hR3 (by omega) W hg)
    clear hR hR3 he
    go_enter Tryd.func6, Tryd.ntmps6
    go_wp2_with (first
      | (go_at_call 11; first
          | ((with_reducible refine (HA.out _ ?_).mono ?_); (focus (exact HG.out.below (by repeat' (first | (with_reducible exact Below.refl _ _) | (with_reducible assumption) | (with_reducible refine below_more ?_ ?_ _) | (with_reducible refine below_drewN ?_ _) | (with_reducible refine Below.drew ?_) | (with_reducible refine Below.alloc ?_ ?_ _) | (with_reducible refine Below.setCell ?_ ?_ _) | go_size | (simp [more_size]; done) | (simp [more_size]; omega))))); rintro e w2 ⟨rfl, g, rfl⟩)
          | ((with_reducible refine (HC.out _ ?_).mono ?_); (focus (exact HG.out.below (by repeat' (first | (with_reducible exact Below.refl _ _) | (with_reducible assumption) | (with_reducible refine below_more ?_ ?_ _) | (with_reducible refine below_drewN ?_ _) | (with_reducible refine Below.drew ?_) | (with_reducible refine Below.alloc ?_ ?_ _) | (with_reducible refine Below.setCell ?_ ?_ _) | go_size | (simp [more_size]; done) | (simp [more_size]; omega))))); rintro e w2 ⟨⟨v3, rfl, HR3⟩, g, rfl⟩)
          | ((with_reducible refine (HB.out _ ?_).mono ?_); (focus (exact HG.out.below (by repeat' (first | (with_reducible exact Below.refl _ _) | (with_reducible assumption) | (with_reducible refine below_more ?_ ?_ _) | (with_reducible refine below_drewN ?_ _) | (with_reducible refine Below.drew ?_) | (with_reducible refine Below.alloc ?_ ?_ _) | (with_reducible refine Below.setCell ?_ ?_ _) | go_size | (simp [more_size]; done) | (simp [more_size]; omega))))); rintro e w2 ⟨⟨a2, l2, c2, p2, k2, rfl⟩, g, rfl⟩))
      | (go_at_call 10; (with_reducible refine (wakes9_any _ ?_).mono ?_); (focus (exact HG.out.below (by repeat' (first | (with_reducible exact Below.refl _ _) | (with_reducible assumption) | (with_reducible refine below_more ?_ ?_ _) | (with_reducible refine below_drewN ?_ _) | (with_reducible refine Below.drew ?_) | (with_reducible refine Below.alloc ?_ ?_ _) | (with_reducible refine Below.setCell ?_ ?_ _) | go_size | (simp [more_size]; done) | (simp [more_size]; omega))))); rintro e w2 ⟨rfl, g, rfl⟩))
    go_ret
    exact ⟨rfl, (by repeat' (first | (with_reducible exact Below.refl _ _) | (with_reducible assumption) | (with_reducible refine below_more ?_ ?_ _) | (with_reducible refine below_drewN ?_ _) | (with_reducible refine Below.drew ?_) | (with_reducible refine Below.alloc ?_ ?_ _) | (with_reducible refine Below.setCell ?_ ?_ _) | go_size | (simp [more_size]; done) | (simp [more_size]; omega)))⟩
set_option maxRecDepth 100000 in
set_option maxHeartbeats 3200000 in
theorem Joins_err (s t : ByteArray) (w : World) (hg : Gs w) (hst : s.size + t.size ≤ 4000) {r : List Tk.Tok} (hR : Tk.lexR s = .ok r) {q : Nat} {ec : Int} (hT : Tk.lexR t = .error (q, ec)) :
    Calls Tryd.prog 6 #[.string s, .string t] w fun e w' => e = .returned (.bool true) ∧ Below w.heap.size w w' := by
  have HG := Lib.hid hg
  clear hg
  have hb1 : (s.size : Int) + (t.size : Int) ≤ 4000 := by omega
  have he := Tk.lexR_ne (by omega) hT
  have hq := he.2
  have e1 : (ec != 0) = true := by simp [he.1]
  have HA := Lib.hid (fun W hg => lex_ok hR (by omega) W hg)
  have HB := Lib.hid (fun W hg => lex_no hT (by omega) W hg)
  have hs3 := Tk.join_size s t
  have hR3 : Tk.lexR (s ++ (⟨#[10]⟩ : ByteArray) ++ t) = .error (q + (s.size + 1), ec) := by rw [Tk.joins hst hR, hT]; rfl
  have HC : ∀ W, Gs W → Calls Tryd.prog 11 #[.string (s ++ (⟨#[10]⟩ : ByteArray) ++ t)] W fun e w' => e = .returned (.tuple #[.slice none 0 0, .int .i64 ((q : Int) + s.size + 1), .int .i64 ec]) ∧ ∃ g, w' = more W g := fun W hg => by
    have := lex_no hR3 (by omega) W hg
    rw [show ((q + (s.size + 1) : Nat) : Int) = (q : Int) + s.size + 1 by omega] at this
    exact this
  replace HC := Lib.hid HC
  clear hR hT hR3 he
  go_enter Tryd.func6, Tryd.ntmps6
  go_wp2_with (first
    | (go_at_call 11; first
        | ((with_reducible refine (HA.out _ ?_).mono ?_); (focus (exact HG.out.below (by repeat' (first | (with_reducible exact Below.refl _ _) | (with_reducible assumption) | (with_reducible refine below_more ?_ ?_ _) | (with_reducible refine below_drewN ?_ _) | (with_reducible refine Below.drew ?_) | (with_reducible refine Below.alloc ?_ ?_ _) | (with_reducible refine Below.setCell ?_ ?_ _) | go_size | (simp [more_size]; done) | (simp [more_size]; omega))))); rintro e w2 ⟨⟨v1, rfl, HR1⟩, g, rfl⟩)
        | ((with_reducible refine (HC.out _ ?_).mono ?_); (focus (exact HG.out.below (by repeat' (first | (with_reducible exact Below.refl _ _) | (with_reducible assumption) | (with_reducible refine below_more ?_ ?_ _) | (with_reducible refine below_drewN ?_ _) | (with_reducible refine Below.drew ?_) | (with_reducible refine Below.alloc ?_ ?_ _) | (with_reducible refine Below.setCell ?_ ?_ _) | go_size | (simp [more_size]; done) | (simp [more_size]; omega))))); rintro e w2 ⟨rfl, g, rfl⟩)
        | ((with_reducible refine (HB.out _ ?_).mono ?_); (focus (exact HG.out.below (by repeat' (first | (with_reducible exact Below.refl _ _) | (with_reducible assumption) | (with_reducible refine below_more ?_ ?_ _) | (with_reducible refine below_drewN ?_ _) | (with_reducible refine Below.drew ?_) | (with_reducible refine Below.alloc ?_ ?_ _) | (with_reducible refine Below.setCell ?_ ?_ _) | go_size | (simp [more_size]; done) | (simp [more_size]; omega))))); rintro e w2 ⟨rfl, g, rfl⟩))
    | (go_at_call 10; (with_reducible refine (wakes9_any _ ?_).mono ?_); (focus (exact HG.out.below (by repeat' (first | (with_reducible exact Below.refl _ _) | (with_reducible assumption) | (with_reducible refine below_more ?_ ?_ _) | (with_reducible refine below_drewN ?_ _) | (with_reducible refine Below.drew ?_) | (with_reducible refine Below.alloc ?_ ?_ _) | (with_reducible refine Below.setCell ?_ ?_ _) | go_size | (simp [more_size]; done) | (simp [more_size]; omega))))); rintro e w2 ⟨rfl, g, rfl⟩))
  go_ret
  exact ⟨rfl, (by repeat' (first | (with_reducible exact Below.refl _ _) | (with_reducible assumption) | (with_reducible refine below_more ?_ ?_ _) | (with_reducible refine below_drewN ?_ _) | (with_reducible refine Below.drew ?_) | (with_reducible refine Below.alloc ?_ ?_ _) | (with_reducible refine Below.setCell ?_ ?_ _) | go_size | (simp [more_size]; done) | (simp [more_size]; omega)))⟩
end Go.Proofs.YtcoakhahjdnlfaaDoor
