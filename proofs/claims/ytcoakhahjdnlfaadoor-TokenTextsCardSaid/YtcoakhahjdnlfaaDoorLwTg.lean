/- The walk of the law TokenBack. Conditions: the library's variables are as they were laid; numbers lie in their bounds. -/
import Derived.Test.YtcoakhahjdnlfaaDoorTokTx
import Derived.Test.YtcoakhahjdnlfaaDoorLwTa
namespace Go.Proofs.YtcoakhahjdnlfaaDoor
set_option linter.all false
open Go.RowKit
namespace Tk
theorem tok_one (ts : List Tok) : ∀ x ∈ tokCells ts, x.oneCell' = true := by
  intro x hx
  simp only [tokCells, List.mem_flatMap] at hx
  obtain ⟨p, _, hx⟩ := hx
  simp at hx
  rcases hx with rfl | rfl | rfl | rfl <;> rfl
theorem small_of {ts : List Tok} (hl : largeT ts = false) (hf : ∀ x ∈ ts, fitT x) : ts.length ≤ 7000 ∧ ∀ t ∈ ts, smallT t := by
  simp only [largeT, longT, Bool.or_eq_false_iff, decide_eq_false_iff_not, List.any_eq_false, decide_eq_true_eq] at hl
  exact ⟨by omega, fun t ht => ⟨by have := hl.2 t ht; omega, (hf t ht).1, (hf t ht).2⟩⟩
theorem textR_err {ts : List Tok} {c : Int} (h : textR ts = .error c) : c = 1 ∨ c = 2 ∨ c = 3 := by
  unfold textR at h
  split at h
  · injection h with h; omega
  · split at h
    · split at h
      · injection h with h; omega
      · cases h
    · injection h with h; omega
theorem textR_ok {ts : List Tok} {l : List UInt8} (h : textR ts = .ok l) : ts.length ≤ 6000 ∧ (∀ t ∈ ts, goodT t) ∧ l = sentT ts ∧ l.length ≤ 16384 := by
  unfold textR at h
  split at h
  · cases h
  · split at h
    · split at h
      · cases h
      · injection h with h
        refine ⟨by omega, by assumption, h.symm, by rw [← h]; omega⟩
    · cases h
/-- what was written is read as it was -/
theorem text_back {ts : List Tok} {l : List UInt8} (h : textR ts = .ok l) : ∃ r, lexR ⟨l.toArray⟩ = .ok r ∧ ts.map (keyT false) = r.map (keyT false) := by
  obtain ⟨h1, h2, h3, h4⟩ := textR_ok h
  obtain ⟨r, hr1, hr2⟩ := lex_join (ts.map fun t => (spellT t, strip t)) (by
    intro x hx
    obtain ⟨t, ht, rfl⟩ := List.mem_map.1 hx
    exact Spelt.whole ((spelt_iff _ _ _).2 (h2 t ht))) 0 0 (by simpa using h1)
  rw [List.map_map] at hr1
  refine ⟨r, ?_, ?_⟩
  · unfold lexR
    have hz : (⟨l.toArray⟩ : ByteArray).size = l.length := by show l.toArray.size = _; simp
    rw [if_neg (by rw [hz]; omega)]
    rw [h3]
    exact hr1
  · rw [List.map_map] at hr2
    have e : keyT false = (fun x : Int × List UInt8 × Int => (x.1, x.2.1, x.2.2, (0 : Int))) ∘ strip := rfl
    rw [e, ← List.map_map, ← List.map_map, hr2]
    rfl
end Tk
set_option maxRecDepth 100000 in
set_option maxHeartbeats 3200000 in
theorem TokenBack_any (v : Value) (ts : List Tk.Tok) (w : World) (hG : Gx w) (hR : Reads w v ts.length 4 (Tk.tokCells ts)) (hf : ∀ x ∈ ts, Tk.fitT x) :
    Calls Tryd.prog 9 #[v] w fun e w' => e = .returned (.bool true) ∧ Below w.heap.size w w' := by
  have HG := Lib.hid hG
  obtain ⟨va, cap, hva, hcap⟩ : ∃ va cap, v = .slice va ts.length cap ∧ cap ≤ maxLen := by
    rcases hR.2 with ⟨h0, a, cap, rfl, hc⟩ | ⟨b, off, cap, rfl, -, hc, -⟩
    · exact ⟨a, cap, by rw [h0], hc⟩
    · exact ⟨_, cap, rfl, hc⟩
  subst hva
  generalize hv : Value.slice va ts.length cap = v at *
  cases hlg : Tk.largeT ts with
  | true =>
    have HLG := Lib.hid (fun W h => hlg ▸ largeT_any v ts W h)
    have HR := Lib.hid hR
    clear hG hR hf hlg
    subst hv
    go_enter Tryd.func9, Tryd.ntmps9
    go_wp2_with (first | (go_at_call 17; (with_reducible refine (HLG.out _ ?_).mono ?_); (focus (exact HR.out)); rintro e w2 ⟨rfl, rfl⟩) | (go_at_call 10; (with_reducible refine (wakes9_any _ ?_).mono ?_); (focus (exact (HG.out.below (by repeat' (first | (with_reducible exact Below.refl _ _) | (with_reducible assumption) | (with_reducible refine below_more ?_ ?_ _) | (with_reducible refine below_drewN ?_ _) | (with_reducible refine Below.drew ?_) | (with_reducible refine Below.alloc ?_ ?_ _) | (with_reducible refine Below.setCell ?_ ?_ _) | go_size | (simp [more_size]; done) | (simp [more_size]; omega)))).gs)); rintro e w2 ⟨rfl, g, rfl⟩))
    go_ret
    exact ⟨rfl, (by repeat' (first | (with_reducible exact Below.refl _ _) | (with_reducible assumption) | (with_reducible refine below_more ?_ ?_ _) | (with_reducible refine below_drewN ?_ _) | (with_reducible refine Below.drew ?_) | (with_reducible refine Below.alloc ?_ ?_ _) | (with_reducible refine Below.setCell ?_ ?_ _) | go_size | (simp [more_size]; done) | (simp [more_size]; omega)))⟩
  | false =>
  have HLG := Lib.hid (fun W h => hlg ▸ largeT_any v ts W h)
  obtain ⟨h7, hsm⟩ := Tk.small_of hlg hf
  have HT := Lib.hid (fun v1 W hG hR => ttext_any v1 ts W hG hR hsm h7)
  have HR := Lib.hid hR
  have HL := Lib.hid (Reads.alloc hR (.cells #[] 34))
  have HON := Lib.hid (Tk.tok_one ts)
  obtain ⟨i0, hi, hz0, hz1, hz2⟩ := info_parts info_tok
  cases hTR : Tk.textR ts with
  | error c =>
    have hc := Tk.textR_err hTR
    have e1 : (c != 0) = true := by simp; omega
    have HTE : Hid (∀ v1 W, Gx W → Reads W v1 ts.length 4 (Tk.tokCells ts) → Calls Tryd.prog 18 #[v1] W fun e w' => e = .returned (.tuple #[.string ⟨#[]⟩, .int .i64 c]) ∧ ∃ g, w' = more W g) :=
      Lib.hid (fun v1 W hG hR => (HT.out v1 W hG hR).mono fun e w' ⟨h1, h2⟩ => ⟨by rw [hTR] at h1; exact h1, h2⟩)
    clear hG hR hf hlg hsm HT hTR hc
    subst hv
    go_enter Tryd.func9, Tryd.ntmps9
    go_wp2_with (first
      | (go_at_call 17; (with_reducible refine (HLG.out _ ?_).mono ?_); (focus (exact HR.out)); rintro e w2 ⟨rfl, rfl⟩)
      | (at_builtin; refine wpList_append_reads rfl _ _ 23 rfl w.heap.size 34 i0 (.agg #[.int .i64 0, .string ⟨#[]⟩, .int .i64 0, .int .i64 0]) 4 40 Tryd.underlying23 hi hz0 hz1 hz2 rfl (by decide) _ 0 [] rfl (owns_empty w _ _ _ (Nat.le_refl _)) _ ts.length (Tk.tokCells ts) rfl HL.out HON.out (by unfold maxLen; omega) (by omega) (by simp) ?_))
    intro v1 w1 hown hgrow
    have hB1 := below_grown ((Below.refl w.heap.size w).alloc (Nat.le_refl _) (.cells #[] 34)) (by simp) hgrow (by intro k hk; simp [Value.ownBlock] at hk; omega)
    clear hgrow
    have HR1 := Lib.hid (show Reads w1 v1 ts.length 4 (Tk.tokCells ts) by have := Reads.of_owns hown; simpa using this)
    have HB1 := Lib.hid hB1
    have HG1 := Lib.hid (HG.out.below hB1)
    clear hown hB1
    go_wp2_with (first | (go_at_call 18; (with_reducible refine (HTE.out _ _ ?_ ?_).mono ?_); (focus (exact HG1.out)); (focus (exact HR1.out)); rintro e w2 ⟨rfl, g, rfl⟩) | (go_at_call 10; (with_reducible refine (wakes9_any _ ?_).mono ?_); (focus (exact (HG1.out.below (by repeat' (first | (with_reducible exact Below.refl _ _) | (with_reducible assumption) | (with_reducible refine below_more ?_ ?_ _) | (with_reducible refine below_drewN ?_ _) | (with_reducible refine Below.drew ?_) | (with_reducible refine Below.alloc ?_ ?_ _) | (with_reducible refine Below.setCell ?_ ?_ _) | go_size | (simp [more_size]; done) | (simp [more_size]; omega)))).gs)); rintro e w2 ⟨rfl, g, rfl⟩))
    go_ret
    exact ⟨rfl, HB1.out.trans (Below.mono (by repeat' (first | (with_reducible exact Below.refl _ _) | (with_reducible assumption) | (with_reducible refine below_more ?_ ?_ _) | (with_reducible refine below_drewN ?_ _) | (with_reducible refine Below.drew ?_) | (with_reducible refine Below.alloc ?_ ?_ _) | (with_reducible refine Below.setCell ?_ ?_ _) | go_size | (simp [more_size]; done) | (simp [more_size]; omega))) HB1.out.size)⟩
  | ok l =>
    obtain ⟨r, hr1, hr2⟩ := Tk.text_back hTR
    have hl16 := (Tk.textR_ok hTR).2.2.2
    obtain ⟨J, hJ⟩ : ∃ J : ByteArray, J = ⟨l.toArray⟩ := ⟨_, rfl⟩
    rw [← hJ] at hr1
    have hJs : J.size = l.length := by rw [hJ]; show l.toArray.size = _; simp
    have HTE : Hid (∀ v1 W, Gx W → Reads W v1 ts.length 4 (Tk.tokCells ts) → Calls Tryd.prog 18 #[v1] W fun e w' => e = .returned (.tuple #[.string J, .int .i64 0]) ∧ ∃ g, w' = more W g) :=
      Lib.hid (fun v1 W hG hR => (HT.out v1 W hG hR).mono fun e w' ⟨h1, h2⟩ => ⟨by rw [hTR] at h1; rw [hJ]; exact h1, h2⟩)
    have HA := Lib.hid (fun W hg => lex_ok hr1 (by omega) W hg)
    have HSM := Lib.hid (fun u v2 W h1 h2 => same_any u v2 ts r false W h1 h2 hr2)
    clear hG hR hf hlg hsm HT hTR hr1 hr2 hl16 hJ hJs
    subst hv
    go_enter Tryd.func9, Tryd.ntmps9
    go_wp2_with (first
      | (go_at_call 17; (with_reducible refine (HLG.out _ ?_).mono ?_); (focus (exact HR.out)); rintro e w2 ⟨rfl, rfl⟩)
      | (at_builtin; refine wpList_append_reads rfl _ _ 23 rfl w.heap.size 34 i0 (.agg #[.int .i64 0, .string ⟨#[]⟩, .int .i64 0, .int .i64 0]) 4 40 Tryd.underlying23 hi hz0 hz1 hz2 rfl (by decide) _ 0 [] rfl (owns_empty w _ _ _ (Nat.le_refl _)) _ ts.length (Tk.tokCells ts) rfl HL.out HON.out (by unfold maxLen; omega) (by omega) (by simp) ?_))
    intro v1 w1 hown hgrow
    have hB1 := below_grown ((Below.refl w.heap.size w).alloc (Nat.le_refl _) (.cells #[] 34)) (by simp) hgrow (by intro k hk; simp [Value.ownBlock] at hk; omega)
    clear hgrow
    have HR1 := Lib.hid (show Reads w1 v1 ts.length 4 (Tk.tokCells ts) by have := Reads.of_owns hown; simpa using this)
    have HRW := Lib.hid (HR.out.below hB1)
    have HB1 := Lib.hid hB1
    have HG1 := Lib.hid (HG.out.below hB1)
    clear hown hB1
    go_wp2_with (first
      | (go_at_call 18; (with_reducible refine (HTE.out _ _ ?_ ?_).mono ?_); (focus (exact HG1.out)); (focus (exact HR1.out)); rintro e w2 ⟨rfl, g, rfl⟩)
      | (go_at_call 11; (with_reducible refine (HA.out _ ?_).mono ?_); (focus (exact (HG1.out.below (by repeat' (first | (with_reducible exact Below.refl _ _) | (with_reducible assumption) | (with_reducible refine below_more ?_ ?_ _) | (with_reducible refine below_drewN ?_ _) | (with_reducible refine Below.drew ?_) | (with_reducible refine Below.alloc ?_ ?_ _) | (with_reducible refine Below.setCell ?_ ?_ _) | go_size | (simp [more_size]; done) | (simp [more_size]; omega)))).gs)); rintro e w3 ⟨⟨v2, rfl, HR2⟩, hm1⟩; have hb3 : Below w1.heap.size w1 w3 := (by obtain ⟨g3, rfl⟩ := hm1; exact (by repeat' (first | (with_reducible exact Below.refl _ _) | (with_reducible assumption) | (with_reducible refine below_more ?_ ?_ _) | (with_reducible refine below_drewN ?_ _) | (with_reducible refine Below.drew ?_) | (with_reducible refine Below.alloc ?_ ?_ _) | (with_reducible refine Below.setCell ?_ ?_ _) | go_size | (simp [more_size]; done) | (simp [more_size]; omega)))); replace hm1 := Lib.hid hm1; replace hb3 := Lib.hid hb3)
      | (go_at_call 13; (with_reducible refine (HSM.out _ _ _ ?_ ?_).mono ?_); (focus (exact HRW.out.below hb3.out)); (focus (exact HR2.out.1)); rintro e w4 ⟨rfl, g4, rfl⟩)
      | (go_at_call 10; (with_reducible refine (wakes9_any _ ?_).mono ?_); (focus (have q3 := hb3.out; exact (HG1.out.below (q3.trans (Below.mono (by repeat' (first | (with_reducible exact Below.refl _ _) | (with_reducible assumption) | (with_reducible refine below_more ?_ ?_ _) | (with_reducible refine below_drewN ?_ _) | (with_reducible refine Below.drew ?_) | (with_reducible refine Below.alloc ?_ ?_ _) | (with_reducible refine Below.setCell ?_ ?_ _) | go_size | (simp [more_size]; done) | (simp [more_size]; omega))) q3.size))).gs)); rintro e w5 ⟨rfl, g5, rfl⟩))
    go_ret
    have q1 := HB1.out
    have q3 := q1.trans (hb3.out.mono q1.size)
    exact ⟨rfl, q3.trans (Below.mono (by repeat' (first | (with_reducible exact Below.refl _ _) | (with_reducible assumption) | (with_reducible refine below_more ?_ ?_ _) | (with_reducible refine below_drewN ?_ _) | (with_reducible refine Below.drew ?_) | (with_reducible refine Below.alloc ?_ ?_ _) | (with_reducible refine Below.setCell ?_ ?_ _) | go_size | (simp [more_size]; done) | (simp [more_size]; omega))) q3.size)⟩
end Go.Proofs.YtcoakhahjdnlfaaDoor
