/- The walk of the law TokenTexts. Conditions: the library's variables are as they were laid; numbers lie in their bounds. -/
import Derived.Test.YtcoakhahjdnlfaaDoorLwTg
import Derived.Test.YtcoakhahjdnlfaaDoorGdD
namespace Go.Proofs.YtcoakhahjdnlfaaDoor
set_option linter.all false
open Go.RowKit
set_option maxRecDepth 100000 in
set_option maxHeartbeats 3200000 in
theorem TokenTexts_any (v : Value) (ts : List Tk.Tok) (w : World) (hG : Gx w) (hR : Reads w v ts.length 4 (Tk.tokCells ts)) (hf : ∀ x ∈ ts, Tk.fitT x) :
    Calls Tryd.prog 8 #[v] w fun e w' => e = .returned (.bool true) ∧ Below w.heap.size w w' := by
  have HG := Lib.hid hG
  obtain ⟨va, cap, hva, hcap⟩ : ∃ va cap, v = .slice va ts.length cap ∧ cap ≤ maxLen := by
    rcases hR.2 with ⟨h0, a, cap, rfl, hc⟩ | ⟨b, off, cap, rfl, -, hc, -⟩
    · exact ⟨a, cap, by rw [h0], hc⟩
    · exact ⟨_, cap, rfl, hc⟩
  subst hva
  generalize hv : Value.slice va ts.length cap = v at *
  cases hlg : Tk.largeT ts with
  | true =>
    have HLG := Lib.hid (fun W h => hlg ▸ largeT_any v ts W h)
    have HR := Lib.hid hR
    clear hG hR hf hlg
    subst hv
    go_enter Tryd.func8, Tryd.ntmps8
    go_wp2_with (first | (go_at_call 17; (with_reducible refine (HLG.out _ ?_).mono ?_); (focus (exact HR.out)); rintro e w2 ⟨rfl, rfl⟩) | (go_at_call 10; (with_reducible refine (wakes9_any _ ?_).mono ?_); (focus (exact (HG.out.below (by repeat' (first | (with_reducible exact Below.refl _ _) | (with_reducible assumption) | (with_reducible refine below_more ?_ ?_ _) | (with_reducible refine below_drewN ?_ _) | (with_reducible refine Below.drew ?_) | (with_reducible refine Below.alloc ?_ ?_ _) | (with_reducible refine Below.setCell ?_ ?_ _) | go_size | (simp [more_size]; done) | (simp [more_size]; omega)))).gs)); rintro e w2 ⟨rfl, g, rfl⟩))
    go_ret
    exact ⟨rfl, (by repeat' (first | (with_reducible exact Below.refl _ _) | (with_reducible assumption) | (with_reducible refine below_more ?_ ?_ _) | (with_reducible refine below_drewN ?_ _) | (with_reducible refine Below.drew ?_) | (with_reducible refine Below.alloc ?_ ?_ _) | (with_reducible refine Below.setCell ?_ ?_ _) | go_size | (simp [more_size]; done) | (simp [more_size]; omega)))⟩
  | false =>
  have HLG := Lib.hid (fun W h => hlg ▸ largeT_any v ts W h)
  obtain ⟨h7, hsm⟩ := Tk.small_of hlg hf
  have HR := Lib.hid hR
  have HL := Lib.hid (Reads.alloc hR (.cells #[] 34))
  have HON := Lib.hid (Tk.tok_one ts)
  obtain ⟨i0, hi, hz0, hz1, hz2⟩ := info_parts info_tok
  obtain ⟨J, c, HT, HT2⟩ : ∃ (J : ByteArray) (c : Int), (∀ v1 W, Gx W → Reads W v1 ts.length 4 (Tk.tokCells ts) → Calls Tryd.prog 18 #[v1] W fun e w' => e = .returned (.tuple #[.string J, .int .i64 c]) ∧ ∃ g, w' = more W g) ∧
      (∀ v1 W, Reads W v1 ts.length 4 (Tk.tokCells ts) → Calls Tryd.prog 19 #[v1] W fun e w' => e = .returned (.tuple #[.string J, .int .i64 c]) ∧ ∃ g, w' = more W g) := by
    cases hTR : Tk.textR ts with
    | error c => exact ⟨⟨#[]⟩, c, fun v1 W hG hR => (ttext_any v1 ts W hG hR hsm h7).mono fun e w' ⟨h1, h2⟩ => ⟨by rw [hTR] at h1; exact h1, h2⟩, fun v1 W hR => (rtext_any v1 ts W hR hsm h7).mono fun e w' ⟨h1, h2⟩ => ⟨by rw [hTR] at h1; exact h1, h2⟩⟩
    | ok l => exact ⟨⟨l.toArray⟩, 0, fun v1 W hG hR => (ttext_any v1 ts W hG hR hsm h7).mono fun e w' ⟨h1, h2⟩ => ⟨by rw [hTR] at h1; exact h1, h2⟩, fun v1 W hR => (rtext_any v1 ts W hR hsm h7).mono fun e w' ⟨h1, h2⟩ => ⟨by rw [hTR] at h1; exact h1, h2⟩⟩
  replace HT := Lib.hid HT
  replace HT2 := Lib.hid HT2
  have HSM := Lib.hid (fun u v2 W h1 h2 => same_any u v2 ts ts true W h1 h2 rfl)
  have e1 : (c == c) = true := by simp
  have e2 : (J.toList == J.toList) = true := by simp
  clear hG hR hf hlg hsm
  subst hv
  go_enter Tryd.func8, Tryd.ntmps8
  go_wp2_with (first
    | (go_at_call 17; (with_reducible refine (HLG.out _ ?_).mono ?_); (focus (exact HR.out)); rintro e w2 ⟨rfl, rfl⟩)
    | (at_builtin; refine wpList_append_reads rfl _ _ 23 rfl w.heap.size 34 i0 (.agg #[.int .i64 0, .string ⟨#[]⟩, .int .i64 0, .int .i64 0]) 4 40 Tryd.underlying23 hi hz0 hz1 hz2 rfl (by decide) _ 0 [] rfl (owns_empty w _ _ _ (Nat.le_refl _)) _ ts.length (Tk.tokCells ts) rfl HL.out HON.out (by unfold maxLen; omega) (by omega) (by simp) ?_))
  intro v1 w1 hown hgrow
  have hB1 := below_grown ((Below.refl w.heap.size w).alloc (Nat.le_refl _) (.cells #[] 34)) (by simp) hgrow (by intro k hk; simp [Value.ownBlock] at hk; omega)
  clear hgrow
  have HR1 := Lib.hid (show Reads w1 v1 ts.length 4 (Tk.tokCells ts) by have := Reads.of_owns hown; simpa using this)
  have HRW := Lib.hid (HR.out.below hB1)
  have HB1 := Lib.hid hB1
  have HG1 := Lib.hid (HG.out.below hB1)
  clear hown hB1
  go_wp2_with (first
    | (go_at_call 18; (with_reducible refine (HT.out _ _ ?_ ?_).mono ?_); (focus (exact HG1.out)); (focus (exact HR1.out)); rintro e w2 ⟨rfl, g, rfl⟩)
    | (go_at_call 19; (with_reducible refine (HT2.out _ _ ?_).mono ?_); (focus (exact HRW.out.below (by repeat' (first | (with_reducible exact Below.refl _ _) | (with_reducible assumption) | (with_reducible refine below_more ?_ ?_ _) | (with_reducible refine below_drewN ?_ _) | (with_reducible refine Below.drew ?_) | (with_reducible refine Below.alloc ?_ ?_ _) | (with_reducible refine Below.setCell ?_ ?_ _) | go_size | (simp [more_size]; done) | (simp [more_size]; omega))))); rintro e w2 ⟨rfl, g2, rfl⟩)
    | (go_at_call 13; (with_reducible refine (HSM.out _ _ _ ?_ ?_).mono ?_); (focus (exact HR1.out.below (by repeat' (first | (with_reducible exact Below.refl _ _) | (with_reducible assumption) | (with_reducible refine below_more ?_ ?_ _) | (with_reducible refine below_drewN ?_ _) | (with_reducible refine Below.drew ?_) | (with_reducible refine Below.alloc ?_ ?_ _) | (with_reducible refine Below.setCell ?_ ?_ _) | go_size | (simp [more_size]; done) | (simp [more_size]; omega))))); (focus (exact HRW.out.below (by repeat' (first | (with_reducible exact Below.refl _ _) | (with_reducible assumption) | (with_reducible refine below_more ?_ ?_ _) | (with_reducible refine below_drewN ?_ _) | (with_reducible refine Below.drew ?_) | (with_reducible refine Below.alloc ?_ ?_ _) | (with_reducible refine Below.setCell ?_ ?_ _) | go_size | (simp [more_size]; done) | (simp [more_size]; omega))))); rintro e w4 ⟨rfl, g4, rfl⟩)
    | (go_at_call 10; (with_reducible refine (wakes9_any _ ?_).mono ?_); (focus (exact (HG1.out.below (by repeat' (first | (with_reducible exact Below.refl _ _) | (with_reducible assumption) | (with_reducible refine below_more ?_ ?_ _) | (with_reducible refine below_drewN ?_ _) | (with_reducible refine Below.drew ?_) | (with_reducible refine Below.alloc ?_ ?_ _) | (with_reducible refine Below.setCell ?_ ?_ _) | go_size | (simp [more_size]; done) | (simp [more_size]; omega)))).gs)); rintro e w5 ⟨rfl, g5, rfl⟩))
  go_ret
  exact ⟨rfl, HB1.out.trans (Below.mono (by repeat' (first | (with_reducible exact Below.refl _ _) | (with_reducible assumption) | (with_reducible refine below_more ?_ ?_ _) | (with_reducible refine below_drewN ?_ _) | (with_reducible refine Below.drew ?_) | (with_reducible refine Below.alloc ?_ ?_ _) | (with_reducible refine Below.setCell ?_ ?_ _) | go_size | (simp [more_size]; done) | (simp [more_size]; omega))) HB1.out.size)⟩
end Go.Proofs.YtcoakhahjdnlfaaDoor
