/- The law's waking call; Lex on texts that are known. Conditions: the library's variables are as they were laid. -/
import Derived.Test.YtcoakhahjdnlfaaDoorTokV
import Derived.KernelRfl
namespace Go.Proofs.YtcoakhahjdnlfaaDoor
set_option linter.all false
open Go.RowKit
namespace Tk
/-- lexF with as many rounds as there is fuel -/
def lexN : Nat → List UInt8 → Nat → Nat → Except (Nat × Int) (List Tok)
  | 0, _, _, _ => .error (0, 999)
  | _ + 1, [], _, _ => .ok []
  | f + 1, c :: t, p, k =>
    if blank c = true then lexN f t (p + 1) k
    else if opens (c :: t) = true then (match cmt (c :: t) 0 with | none => .error (p, 90) | some m => lexN f ((c :: t).drop m) (p + m) k)
    else match tokF (c :: t) with
      | .error e => .error (p, e)
      | .ok (kd, w, n, m) => if k = 6000 then .error (p, 3) else match lexN f ((c :: t).drop m) (p + m) (k + 1) with | .error e => .error e | .ok r => .ok ((kd, w, n, (p : Int)) :: r)
theorem lexN_eq (f : Nat) : ∀ (l : List UInt8) (p k : Nat), l.length < f → lexN f l p k = lexF l p k := by
  induction f with
  | zero => intro l p k h; omega
  | succ f ih =>
    intro l p k h
    match l with
    | [] => rw [lexN, lexF_nil]
    | c :: t =>
      rw [lexN]
      by_cases hb : blank c = true
      · rw [if_pos hb, lexF_blank p k hb, ih t (p + 1) k (by simp at h; omega)]
      · rw [if_neg hb]
        have hb' : blank c = false := by simpa using hb
        by_cases ho : opens (c :: t) = true
        · rw [if_pos ho]
          cases hc : cmt (c :: t) 0 with
          | none => rw [lexF_cmt_none p k hb' ho hc]
          | some m =>
            have hm := cmt_len _ _ _ hc
            rw [lexF_cmt p k hb' ho hc]
            exact ih _ _ _ (by simp at h hm ⊢; omega)
        · rw [if_neg ho]
          have ho' : opens (c :: t) = false := by simpa using ho
          cases ht : tokF (c :: t) with
          | error e => rw [lexF_err p k hb' ho' ht]
          | ok v =>
            obtain ⟨kd, w, n, m⟩ := v
            have hm := tokF_len ht
            rw [lexF_tok p k hb' ho' ht]
            simp only
            rw [ih _ _ _ (by simp at h hm ⊢; omega)]
            by_cases h6 : k = 6000
            · rw [if_pos h6, if_pos h6]
            · rw [if_neg h6, if_neg h6]
              cases lexF (List.drop m (c :: t)) (p + m) (k + 1) <;> rfl
end Tk
def wakeA : ByteArray := ⟨#[120, 58, 61, 48, 70, 70, 72, 59, 40, 42, 32, 97, 32, 40, 42, 32, 98, 32, 42, 41, 32, 42, 41]⟩
def wakeB : ByteArray := ⟨#[97, 32, 49, 46, 53]⟩
theorem wakeA_lex : Tk.lexR wakeA = .ok [(1, [120], 0, 0), (6, [58, 61], 0, 1), (3, [], 255, 3), (6, [59], 0, 7)] := by
  unfold Tk.lexR
  rw [if_neg (by decide), ← Tk.lexN_eq 40 _ _ _ (by decide)]
  kernel_rfl
theorem wakeB_lex : Tk.lexR wakeB = .error (2, 90) := by
  unfold Tk.lexR
  rw [if_neg (by decide), ← Tk.lexN_eq 40 _ _ _ (by decide)]
  kernel_rfl
theorem lex_ok {s : ByteArray} {ts : List Tk.Tok} (h : Tk.lexR s = .ok ts) (hs : s.size < 4294967281) (w : World) (hg : Gs w) :
    Calls Tryd.prog 11 #[.string s] w fun e w' => (∃ v, e = .returned (.tuple #[v, .int .i64 0, .int .i64 0]) ∧ Hid (Reads w' v ts.length 4 (Tk.tokCells ts) ∧ ts.length ≤ 6000 ∧ w'.ownsRow w.heap.size 34 4 v ts.length (Tk.tokCells ts))) ∧ ∃ g, w' = more w g :=
  (lex_any s w hg hs).mono fun e w' h' => by rw [h] at h'; exact h'
theorem lex_no {s : ByteArray} {p : Nat} {c : Int} (h : Tk.lexR s = .error (p, c)) (hs : s.size < 4294967281) (w : World) (hg : Gs w) :
    Calls Tryd.prog 11 #[.string s] w fun e w' => e = .returned (.tuple #[.slice none 0 0, .int .i64 p, .int .i64 c]) ∧ ∃ g, w' = more w g :=
  (lex_any s w hg hs).mono fun e w' h' => by rw [h] at h'; exact h'
theorem wake_cells {W : World} {v : Value} (h : Hid (Reads W v [((1 : Int), [(120 : UInt8)], (0 : Int), (0 : Int)), (6, [58, 61], 0, 1), (3, [], 255, 3), (6, [59], 0, 7)].length 4 (Tk.tokCells [(1, [120], 0, 0), (6, [58, 61], 0, 1), (3, [], 255, 3), (6, [59], 0, 7)]) ∧ [((1 : Int), [(120 : UInt8)], (0 : Int), (0 : Int)), (6, [58, 61], 0, 1), (3, [], 255, 3), (6, [59], 0, 7)].length ≤ 6000)) :
    ∃ b off cap, v = .slice (some ⟨b, off, none⟩) 4 cap ∧ (4 ≤ cap ∧ cap ≤ 9223372036854775807) ∧ b < W.heap.size ∧ W.cell? ⟨b, off + 8 + 2, none⟩ = some (.int .i64 255) := by
  obtain ⟨hR, -⟩ := h.out
  rcases hR.2 with ⟨h0, -⟩ | ⟨b, off, cap, rfl, hnc, hcm, hbl, hc⟩
  · simp at h0
  · refine ⟨b, off, cap, rfl, ⟨by simpa using hnc, by unfold maxLen at hcm; omega⟩, hbl, ?_⟩
    have := hc 10 (.int .i64 255) rfl
    rwa [show off + 8 + 2 = off + 10 by omega]
theorem wakeA_any (W : World) (hg : Gs W) :
    Calls Tryd.prog 11 #[.string ⟨#[120, 58, 61, 48, 70, 70, 72, 59, 40, 42, 32, 97, 32, 40, 42, 32, 98, 32, 42, 41, 32, 42, 41]⟩] W fun e w' =>
      (∃ b off cap, e = .returned (.tuple #[.slice (some ⟨b, off, none⟩) 4 cap, .int .i64 0, .int .i64 0]) ∧ (4 ≤ cap ∧ cap ≤ 9223372036854775807) ∧ b < w'.heap.size ∧ w'.cell? ⟨b, off + 8 + 2, none⟩ = some (.int .i64 255)) ∧ ∃ g, w' = more W g := by
  refine (lex_ok wakeA_lex (by decide) W hg).mono ?_
  rintro e w' ⟨⟨v, rfl, HR⟩, hw⟩
  obtain ⟨b, off, cap, rfl, h1, h2, h3⟩ := wake_cells (Lib.hid ⟨HR.out.1, HR.out.2.1⟩)
  exact ⟨⟨b, off, cap, rfl, h1, h2, h3⟩, hw⟩
theorem wakeB_any (W : World) (hg : Gs W) :
    Calls Tryd.prog 11 #[.string ⟨#[97, 32, 49, 46, 53]⟩] W fun e w' => e = .returned (.tuple #[.slice none 0 0, .int .i64 2, .int .i64 90]) ∧ ∃ g, w' = more W g :=
  lex_no wakeB_lex (by decide) W hg
set_option maxRecDepth 100000 in
set_option maxHeartbeats 1600000 in
theorem wakes9_any (w : World) (hg : Gs w) :
    Calls Tryd.prog 10 #[] w fun e w' => e = .returned (.bool true) ∧ ∃ g, w' = more w g := by
  have HG := Lib.hid hg
  clear hg
  go_enter Tryd.func10, Tryd.ntmps10
  go_wp2_with (go_at_call 11; first
    | ((with_reducible refine (wakeA_any _ ?_).mono ?_); (focus (exact HG.out.below (by repeat' (first | (with_reducible exact Below.refl _ _) | (with_reducible assumption) | (with_reducible refine below_more ?_ ?_ _) | (with_reducible refine below_drewN ?_ _) | (with_reducible refine Below.drew ?_) | (with_reducible refine Below.alloc ?_ ?_ _) | (with_reducible refine Below.setCell ?_ ?_ _) | go_size | (simp [more_size]; done) | (simp [more_size]; omega))))); rintro e w2 ⟨⟨b, off, cap, rfl, ⟨h1, h2⟩, hbl, c2⟩, hmw⟩; have hbw : Below w.heap.size w w2 := (by obtain ⟨g, rfl⟩ := hmw; exact (by repeat' (first | (with_reducible exact Below.refl _ _) | (with_reducible assumption) | (with_reducible refine below_more ?_ ?_ _) | (with_reducible refine below_drewN ?_ _) | (with_reducible refine Below.drew ?_) | (with_reducible refine Below.alloc ?_ ?_ _) | (with_reducible refine Below.setCell ?_ ?_ _) | go_size | (simp [more_size]; done) | (simp [more_size]; omega)))); replace hmw := Lib.hid hmw; replace hbw := Lib.hid hbw)
    | ((with_reducible refine (wakeB_any _ ?_).mono ?_); (focus (have hb2 := hbw.out; exact HG.out.below (by repeat' (first | (with_reducible exact Below.refl _ _) | (with_reducible assumption) | (with_reducible refine below_more ?_ ?_ _) | (with_reducible refine below_drewN ?_ _) | (with_reducible refine Below.drew ?_) | (with_reducible refine Below.alloc ?_ ?_ _) | (with_reducible refine Below.setCell ?_ ?_ _) | go_size | (simp [more_size]; done) | (simp [more_size]; omega))))); rintro e w2 ⟨rfl, g2, rfl⟩))
  go_ret
  have hb2 := hbw.out
  exact ⟨rfl, more_of_below (hb2.trans (Below.mono (by repeat' (first | (with_reducible exact Below.refl _ _) | (with_reducible assumption) | (with_reducible refine below_more ?_ ?_ _) | (with_reducible refine below_drewN ?_ _) | (with_reducible refine Below.drew ?_) | (with_reducible refine Below.alloc ?_ ?_ _) | (with_reducible refine Below.setCell ?_ ?_ _) | go_size | (simp [more_size]; done) | (simp [more_size]; omega))) hb2.size))⟩
end Go.Proofs.YtcoakhahjdnlfaaDoor
