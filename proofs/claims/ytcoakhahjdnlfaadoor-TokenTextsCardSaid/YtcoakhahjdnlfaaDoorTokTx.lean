/- What Text answers, by plain definition; the walk of token.Text. Conditions: the library's variables are as they were laid; at most 7000 tokens, the texts of which have at most 200 bytes each. The walk of the law's large (layer 9): are there more than 7000 tokens, or is one of the texts longer than 200? And arguments that are slices of tokens, opened as lists. Conditions: none. -/
import Derived.Test.YtcoakhahjdnlfaaDoorTokSq
import Derived.Test.YtcoakhahjdnlfaaDoorTokI
import Derived.Test.YtcoakhahjdnlfaaDoorTokM
import Derived.Test.YtcoakhahjdnlfaaDoorTokQa
import Derived.Lib.Join
import Derived.Test.YtcoakhahjdnlfaaDoorOpen2W
namespace Go.Proofs.YtcoakhahjdnlfaaDoor
set_option linter.all false
open Go.RowKit
namespace Tk
def goodT (t : Tok) : Prop := Good t.1 t.2.1 t.2.2.1
def spellT (t : Tok) : List UInt8 := spell t.1 t.2.1 t.2.2.1
def sentT (ts : List Tok) : List UInt8 := joinS (ts.map spellT)
open Classical in
/-- what Text answers: the text, or the error -/
noncomputable def textR (ts : List Tok) : Except Int (List UInt8) :=
  if 6000 < ts.length then .error 3 else if ∀ t ∈ ts, goodT t then (if 16384 < (sentT ts).length then .error 2 else .ok (sentT ts)) else .error 1
def TextRet (R : Except Int (List UInt8)) (e : Ending) : Prop :=
  match R with
  | .ok l => e = .returned (.tuple #[.string ⟨l.toArray⟩, .int .i64 0])
  | .error c => e = .returned (.tuple #[.string ⟨#[]⟩, .int .i64 c])
/-- a token that is not too large -/
def smallT (t : Tok) : Prop := t.2.1.length ≤ 200 ∧ -9223372036854775808 ≤ t.2.2.1 ∧ t.2.2.1 < 9223372036854775808
theorem spell_len {t : Tok} (h : smallT t) (hg : goodT t) : (spellT t).length ≤ 66 := ((spelt_iff _ _ _).2 hg).2.1
theorem joinS_eq (l : List (List UInt8)) : Lib.join l [32] = joinS l := by
  induction l with
  | nil => rfl
  | cons x t ih =>
    cases t with
    | nil => simp [joinS, Lib.join_one]
    | cons y u =>
      rw [joinS, ← ih, Lib.join, Lib.join, List.intercalate, List.intercalate, List.intersperse]
      all_goals simp
theorem joinS_len (l : List (List UInt8)) (h : ∀ s ∈ l, s.length ≤ 66) : (joinS l).length ≤ 67 * l.length := by
  induction l with
  | nil => simp [joinS]
  | cons x t ih =>
    have hx := h x (List.mem_cons_self ..)
    have := ih fun s hs => h s (List.mem_cons_of_mem _ hs)
    cases t with
    | nil => simp [joinS]; omega
    | cons y u => simp [joinS] at this ⊢; omega
theorem strCells_snoc (l : List (List UInt8)) (s : ByteArray) : (strCells (l ++ [s.data.toList])).toList = (strCells l).toList ++ [.string s] := by
  simp [strCells]
end Tk
theorem info_str : (Tryd.prog.info? 9).map (fun i => (i.zero, i.size, i.bytes)) = some (some (.string ⟨#[]⟩), 1, 16) := by kernel_rfl
theorem reads_one (w : World) (p : Nat) (a : Value) (e : TypeId) (hp : p = w.heap.size) : Reads (w.alloc (.cells #[a] e)) (.slice (some ⟨p, 0, none⟩) 1 1) 1 1 [a] := by
  subst hp; exact reads_lit w #[a] e 1 1 (by decide) rfl
theorem bytes_ext {a b : ByteArray} (h : a.data.toList = b.data.toList) : a = b := by
  apply ByteArray.ext; exact Array.toList_inj.1 h
theorem join_own (v : Value) (n : Nat) (l : List (List UInt8)) (W w : World) (base : Nat) (hn : l.length = n) (hown : w.ownsRow base 9 1 v n (strCells l).toList) (h7 : n ≤ 7000) (hl : (Tk.joinS l).length ≤ 1000000) :
    Calls Tryd.prog 35 #[v, .string ⟨#[32]⟩] w fun e w' => e = .returned (.string ⟨(Tk.joinS l).toArray⟩) ∧ ∃ g, w' = more w g := by
  rcases hown.2 with ⟨h0, rfl⟩ | ⟨g, cap, cur, rfl, hbg, hg0, hnc, hcm, hcs, htake⟩
  · subst h0
    have : l = [] := List.length_eq_zero_iff.1 hn
    subst this
    clear hown hl
    go_enter Tryd.func35, Tryd.ntmps35
    go_wp2
    go_ret
    exact ⟨rfl, more_refl _⟩
  · have hc := hown.cells (g := g) rfl
    have hz : g < w.heap.size := by have := hown.lt g rfl; exact this.2
    have hm : (l.map fun s => (⟨s.toArray⟩ : ByteArray)).map (·.data.toList) = l := by simp [Function.comp_def]
    have hj := Tryd.strings_Join g 0 cap (l.map fun s => (⟨s.toArray⟩ : ByteArray)) ⟨#[32]⟩ w (fun j x hx => ?_) hz (by simp; omega) (by simp; omega) (by rw [hm, Tk.joinS_eq]; omega)
    · rw [hm, Tk.joinS_eq] at hj
      rw [List.length_map, hn] at hj
      exact hj.mono fun e w' ⟨h1, h2⟩ => ⟨h1, more_of_below h2⟩
    · have := hc j (.string x) (by simp [strCells] at hx ⊢; obtain ⟨a, ha, rfl⟩ := hx; exact ⟨a, ha, rfl⟩)
      unfold Addr.add at this
      split at this
      · rename_i h; rw [h]; exact this
      · simpa using this
def tokV (t : Tk.Tok) : Value := .agg #[.int .i64 t.1, .string ⟨t.2.1.toArray⟩, .int .i64 t.2.2.1, .int .i64 t.2.2.2]
theorem spelt_yes (x b1 b2 b3 b4 m : Nat) (t : Tk.Tok) (w : World) (hL : Tk.Lx w x b1 b2 b3 b4 m) (hG : Gx w) (hs : Tk.smallT t) (hg : Tk.goodT t) :
    Calls Tryd.prog 34 #[.pointer (some ⟨x, 0, none⟩), tokV t] w fun e w' => e = .returned (.tuple #[.string ⟨(Tk.spellT t).toArray⟩, .bool true]) ∧ ∃ g, w' = more w g := by
  refine (spelt_any x b1 b2 b3 b4 m t.1 t.2.2.1 t.2.2.2 ⟨t.2.1.toArray⟩ w hL hG (by show t.2.1.toArray.size ≤ _; have := hs.1; simp; omega) hs.2.1 hs.2.2).mono ?_
  rintro e w' ⟨⟨str, b, rfl, H⟩, h2⟩
  obtain ⟨h3, h4⟩ := H.out
  have hb : b = true := h3.2 (Tk.good_spelt hg)
  subst hb
  refine ⟨?_, h2⟩
  rw [bytes_ext (a := str) (b := ⟨(Tk.spellT t).toArray⟩) (h4 rfl)]
theorem spelt_no (x b1 b2 b3 b4 m : Nat) (t : Tk.Tok) (w : World) (hL : Tk.Lx w x b1 b2 b3 b4 m) (hG : Gx w) (hs : Tk.smallT t) (hg : ¬ Tk.goodT t) :
    Calls Tryd.prog 34 #[.pointer (some ⟨x, 0, none⟩), tokV t] w fun e w' => (∃ str, e = .returned (.tuple #[.string str, .bool false])) ∧ ∃ g, w' = more w g := by
  refine (spelt_any x b1 b2 b3 b4 m t.1 t.2.2.1 t.2.2.2 ⟨t.2.1.toArray⟩ w hL hG (by show t.2.1.toArray.size ≤ _; have := hs.1; simp; omega) hs.2.1 hs.2.2).mono ?_
  rintro e w' ⟨⟨str, b, rfl, H⟩, h2⟩
  obtain ⟨h3, h4⟩ := H.out
  have hb : b = false := by
    cases b
    · rfl
    · exact absurd (Tk.spelt_good (h3.1 rfl)) hg
  subst hb
  exact ⟨⟨str, rfl⟩, h2⟩
set_option maxRecDepth 1000000 in
set_option maxHeartbeats 6400000 in
theorem ttext_any (v : Value) (ts : List Tk.Tok) (w : World) (hG : Gx w) (hR : Reads w v ts.length 4 (Tk.tokCells ts)) (hsm : ∀ t ∈ ts, Tk.smallT t) (h7 : ts.length ≤ 7000) :
    Calls Tryd.prog 18 #[v] w fun e w' => Tk.TextRet (Tk.textR ts) e ∧ ∃ g, w' = more w g := by
  obtain ⟨va, cap, hva⟩ : ∃ va cap, v = .slice va ts.length cap := by
    rcases hR.2 with ⟨h0, a, cap, rfl, -⟩ | ⟨b, off, cap, rfl, -⟩
    · exact ⟨a, cap, by rw [h0]⟩
    · exact ⟨_, cap, rfl⟩
  by_cases h6 : 6000 < ts.length
  · have hT : Tk.textR ts = .error 3 := by unfold Tk.textR; rw [if_pos h6]
    rw [hT]
    have h6' : (6000 : Int) < (ts.length : Int) := by omega
    subst hva
    clear hT hR hsm h7 h6 hG
    go_enter Tryd.func18, Tryd.ntmps18
    go_wp2
    go_ret2
    exact ⟨rfl, more_refl _⟩
  have h6' : (ts.length : Int) ≤ 6000 := by omega
  have h60 : ts.length ≤ 6000 := by omega
  have HG := Lib.hid hG
  have HR := Lib.hid hR
  have HSM := Lib.hid hsm
  obtain ⟨i0, hi, hz0, hz1, hz2⟩ := info_parts info_str
  have hbv : ∀ k, (hk : k < ts.length) → ∃ b off, va = some ⟨b, off, none⟩ ∧ b < w.heap.size ∧ w.cell? ⟨b, off + k * 4, none⟩ = some (.int .i64 ts[k].1) ∧ w.cell? ⟨b, off + k * 4 + 1, none⟩ = some (.string ⟨ts[k].2.1.toArray⟩) ∧ w.cell? ⟨b, off + k * 4 + 2, none⟩ = some (.int .i64 ts[k].2.2.1) ∧ w.cell? ⟨b, off + k * 4 + 3, none⟩ = some (.int .i64 ts[k].2.2.2) := by
    intro k hk
    subst hva
    rcases hR.2 with ⟨h0, -⟩ | ⟨b, off, cap2, he, -, -, hbl, hc⟩
    · omega
    · simp only [Value.slice.injEq] at he
      obtain ⟨e1, -, -⟩ := he
      have h1 := Tk.tokCells_at ts k hk
      exact ⟨b, off, e1, hbl, hc _ _ h1.1, by have := hc _ _ h1.2.1; rwa [← Nat.add_assoc] at this, by have := hc _ _ h1.2.2.1; rwa [← Nat.add_assoc] at this, by have := hc _ _ h1.2.2.2; rwa [← Nat.add_assoc] at this⟩
  have HBV := Lib.hid hbv
  have hcapl : cap ≤ maxLen := by
    subst hva
    rcases hR.2 with ⟨h0, a, cp, he, hh⟩ | ⟨b, off, cp, he, -, hh, -⟩
    · simp only [Value.slice.injEq] at he; obtain ⟨-, -, rfl⟩ := he; exact hh
    · simp only [Value.slice.injEq] at he; obtain ⟨-, -, rfl⟩ := he; exact hh
  have hcap0 : ts.length ≤ cap := by
    subst hva
    rcases hR.2 with ⟨h0, -⟩ | ⟨b, off, cp, he, hh, -⟩
    · omega
    · simp only [Value.slice.injEq] at he; obtain ⟨-, -, rfl⟩ := he; exact hh
  subst hva
  clear hG hR hsm hbv h6 h7
  go_enter Tryd.func18, Tryd.ntmps18
  go_wp2_with (go_at_call 20; refine (begun_any _ HG.out.gs).mono ?_; rintro e w' ⟨⟨x, b1, b2, b3, b4, m, rfl, hL⟩, g0, rfl⟩)
  generalize hW : more w g0 = w' at *
  have HB0 : Below w.heap.size w w' := by rw [← hW]; exact (by repeat' (first | (with_reducible exact Below.refl _ _) | (with_reducible assumption) | (with_reducible refine below_more ?_ ?_ _) | (with_reducible refine below_drewN ?_ _) | (with_reducible refine Below.drew ?_) | (with_reducible refine Below.alloc ?_ ?_ _) | (with_reducible refine Below.setCell ?_ ?_ _) | go_size | (simp [more_size]; done) | (simp [more_size]; omega)))
  have HG0 := Lib.hid (HG.out.below HB0)
  replace HB0 := Lib.hid HB0
  have HL := Lib.hid hL
  clear hW hL HG
  go_loopw [5, 17] (fun v i wr => ∃ (k : Nat), i = .int .i64 k ∧ k ≤ ts.length ∧ wr.ownsRow w'.heap.size 9 1 v k (strCells ((ts.take k).map Tk.spellT)).toList ∧ Below w'.heap.size w' wr ∧ Hid (∀ t ∈ ts.take k, Tk.goodT t)) (fun _ i _ => ts.length - (intOf i).toNat)
  case atStart => exact ⟨0, rfl, by omega, World.ownsRow_nil _ _ _ _, Below.refl _ _, Lib.hid (by simp)⟩
  case round =>
    obtain ⟨k, rfl, hk, hown, hBw, H⟩ := hrel
    have hsz := hBw.size
    have HLw := Lib.hid (HL.out.below hBw)
    have HGw := Lib.hid (HG0.out.below hBw)
    have HO := Lib.hid hown
    obtain ⟨vb, capb, rfl, hc1, hc2⟩ := owns_form hown
    have HBW := Lib.hid hBw
    have HBB := Lib.hid (HB0.out.trans (Below.mono hBw HB0.out.size))
    clear hown hBw
    by_cases hlt : k < ts.length
    · obtain ⟨b, off, hva, hbl, c0, c1, c2, c3⟩ := HBV.out k hlt
      replace c0 := (HBB.out.cell (p := ⟨b, off + k * 4, none⟩) hbl).trans c0
      replace c1 := (HBB.out.cell (p := ⟨b, off + k * 4 + 1, none⟩) hbl).trans c1
      replace c2 := (HBB.out.cell (p := ⟨b, off + k * 4 + 2, none⟩) hbl).trans c2
      replace c3 := (HBB.out.cell (p := ⟨b, off + k * 4 + 3, none⟩) hbl).trans c3
      replace hbl := Nat.lt_of_lt_of_le hbl HBB.out.size
      subst hva
      have hmem : ts[k] ∈ ts := List.getElem_mem hlt
      have hsmk := HSM.out _ hmem
      by_cases hgd : Tk.goodT ts[k]
      · have HSP := Lib.hid (fun W hL hG => spelt_yes x b1 b2 b3 b4 m ts[k] W hL hG hsmk hgd)
        have HTK := Lib.hid (show (ts.take (k + 1)).map Tk.spellT = (ts.take k).map Tk.spellT ++ [(⟨(Tk.spellT ts[k]).toArray⟩ : ByteArray).data.toList] by rw [List.take_succ_eq_append_getElem hlt, List.map_append]; rfl)
        have HNX := Lib.hid (show ∀ t ∈ ts.take (k + 1), Tk.goodT t by
          intro t ht
          rw [List.take_succ_eq_append_getElem hlt] at ht
          rcases List.mem_append.1 ht with h | h
          · exact H.out t h
          · simp at h; subst h; exact hgd)
        unfold tokV at HSP
        generalize Tk.spellT ts[k] = sp at *
        generalize ts[k] = tk at *
        obtain ⟨kd, tw, tn, ta⟩ := tk
        simp only at c0 c1 c2 c3 HSP
        have hi0 : (0 : Int) ≤ (k : Int) := by omega
        have hi1 : (k : Int) < (ts.length : Int) := by omega
        clear hgd hsmk hmem H
        go_wp2_with (first | (go_at_call 34; (with_reducible refine (HSP.out _ ?_ ?_).mono ?_); (focus (exact HLw.out.below (by repeat' (first | (with_reducible exact Below.refl _ _) | (with_reducible assumption) | (with_reducible refine below_more ?_ ?_ _) | (with_reducible refine below_drewN ?_ _) | (with_reducible refine Below.drew ?_) | (with_reducible refine Below.alloc ?_ ?_ _) | (with_reducible refine Below.setCell ?_ ?_ _) | go_size | (simp [more_size]; done) | (simp [more_size]; omega))))); (focus (exact HGw.out.below (by repeat' (first | (with_reducible exact Below.refl _ _) | (with_reducible assumption) | (with_reducible refine below_more ?_ ?_ _) | (with_reducible refine below_drewN ?_ _) | (with_reducible refine Below.drew ?_) | (with_reducible refine Below.alloc ?_ ?_ _) | (with_reducible refine Below.setCell ?_ ?_ _) | go_size | (simp [more_size]; done) | (simp [more_size]; omega))))); rintro e w2 ⟨rfl, g, rfl⟩) | (at_builtin; refine wpList_append_reads rfl _ _ 60 rfl w'.heap.size 9 i0 (.string ⟨#[]⟩) 1 16 Tryd.underlying60 hi hz0 hz1 hz2 rfl (by decide) _ k _ rfl (owns_kept HO.out ?_) _ 1 [.string ⟨sp.toArray⟩] rfl (reads_one _ _ _ 9 ?_) ?_ ?_ ?_ ?_ ?_; (focus (exact (by repeat' (first | (with_reducible exact Below.refl _ _) | (with_reducible assumption) | (with_reducible refine below_more ?_ ?_ _) | (with_reducible refine below_drewN ?_ _) | (with_reducible refine Below.drew ?_) | (with_reducible refine Below.alloc ?_ ?_ _) | (with_reducible refine Below.setCell ?_ ?_ _) | go_size | (simp [more_size]; done) | (simp [more_size]; omega))))); (focus (simp [more_size]; done)); (focus (intro q hq; simp at hq; subst hq; rfl)); (focus (unfold maxLen; omega)); (focus omega); (focus (first | (simp [more_size]; omega) | omega)); intro v' w1 hown' hgrow))
        have hBn : Below w'.heap.size w' w1 := by
          refine below_grown ?_ ?_ hgrow (owns_rows HO.out)
          · have hBw2 := HBW.out; exact (by repeat' (first | (with_reducible exact Below.refl _ _) | (with_reducible assumption) | (with_reducible refine below_more ?_ ?_ _) | (with_reducible refine below_drewN ?_ _) | (with_reducible refine Below.drew ?_) | (with_reducible refine Below.alloc ?_ ?_ _) | (with_reducible refine Below.setCell ?_ ?_ _) | go_size | (simp [more_size]; done) | (simp [more_size]; omega)))
          · first | (simp [more_size]; omega) | omega
        refine ⟨⟨k + 1, by go_num, by omega, ?_, hBn, HNX⟩, by simp [intOf]; omega⟩
        have e : (strCells ((ts.take k).map Tk.spellT ++ [sp])).toList = (strCells ((ts.take k).map Tk.spellT)).toList ++ [.string ⟨sp.toArray⟩] := Tk.strCells_snoc _ ⟨sp.toArray⟩
        rw [HTK.out, e]
        exact hown'
      · have HSP := Lib.hid (fun W hL hG => spelt_no x b1 b2 b3 b4 m ts[k] W hL hG hsmk hgd)
        have HV := Lib.hid (show Tk.textR ts = .error 1 by unfold Tk.textR; rw [if_neg (by omega), if_neg (fun h => hgd (h _ hmem))])
        unfold tokV at HSP
        generalize ts[k] = tk at *
        obtain ⟨kd, tw, tn, ta⟩ := tk
        simp only at c0 c1 c2 c3 HSP
        have hi0 : (0 : Int) ≤ (k : Int) := by omega
        have hi1 : (k : Int) < (ts.length : Int) := by omega
        clear hgd hsmk hmem H
        go_wp2_with (first | (go_at_call 34; (with_reducible refine (HSP.out _ ?_ ?_).mono ?_); (focus (exact HLw.out.below (by repeat' (first | (with_reducible exact Below.refl _ _) | (with_reducible assumption) | (with_reducible refine below_more ?_ ?_ _) | (with_reducible refine below_drewN ?_ _) | (with_reducible refine Below.drew ?_) | (with_reducible refine Below.alloc ?_ ?_ _) | (with_reducible refine Below.setCell ?_ ?_ _) | go_size | (simp [more_size]; done) | (simp [more_size]; omega))))); (focus (exact HGw.out.below (by repeat' (first | (with_reducible exact Below.refl _ _) | (with_reducible assumption) | (with_reducible refine below_more ?_ ?_ _) | (with_reducible refine below_drewN ?_ _) | (with_reducible refine Below.drew ?_) | (with_reducible refine Below.alloc ?_ ?_ _) | (with_reducible refine Below.setCell ?_ ?_ _) | go_size | (simp [more_size]; done) | (simp [more_size]; omega))))); rintro e w2 ⟨⟨str, rfl⟩, g, rfl⟩))
        go_ret2
        exact ⟨by rw [HV.out]; rfl, (by have hBw2 := HBW.out; have hB2 := HB0.out; exact more_of_below (hB2.trans (Below.mono (by repeat' (first | (with_reducible exact Below.refl _ _) | (with_reducible assumption) | (with_reducible refine below_more ?_ ?_ _) | (with_reducible refine below_drewN ?_ _) | (with_reducible refine Below.drew ?_) | (with_reducible refine Below.alloc ?_ ?_ _) | (with_reducible refine Below.setCell ?_ ?_ _) | go_size | (simp [more_size]; done) | (simp [more_size]; omega))) hB2.size)))⟩
    · have hke : k = ts.length := by omega
      subst hke
      rw [List.take_length] at H HO
      have hall := H.out
      have hjl : (Tk.joinS (ts.map Tk.spellT)).length ≤ 1000000 := by
        have := Tk.joinS_len (ts.map Tk.spellT) (by
          intro s hs
          obtain ⟨t, ht, rfl⟩ := List.mem_map.1 hs
          exact Tk.spell_len (HSM.out t ht) (hall t ht))
        rw [List.length_map] at this
        omega
      have HJ := Lib.hid (fun W (h : W.ownsRow w'.heap.size 9 1 (.slice vb ts.length capb) ts.length (strCells (ts.map Tk.spellT)).toList) => join_own (.slice vb ts.length capb) ts.length (ts.map Tk.spellT) W W w'.heap.size (by simp) h (by omega) hjl)
      have HV := Lib.hid (show Tk.textR ts = if 16384 < (Tk.joinS (ts.map Tk.spellT)).length then .error 2 else .ok (Tk.joinS (ts.map Tk.spellT)) by unfold Tk.textR; rw [if_neg (by omega), if_pos hall]; rfl)
      have hJl : (⟨(Tk.joinS (ts.map Tk.spellT)).toArray⟩ : ByteArray).size = (Tk.joinS (ts.map Tk.spellT)).length := by show (Tk.joinS (ts.map Tk.spellT)).toArray.size = _; simp
      clear hall
      generalize Tk.joinS (ts.map Tk.spellT) = J at *
      obtain ⟨JB, hJB⟩ : ∃ JB : ByteArray, JB = ⟨J.toArray⟩ := ⟨_, rfl⟩
      rw [← hJB] at HJ hJl
      by_cases hbig : 16384 < J.length
      · have hb1 : (16384 : Int) < (JB.size : Int) := by omega
        have HV2 := Lib.hid (HV.out.trans (if_pos hbig))
        clear hJl hjl hbig HV hJB hlt
        go_wp2_with (go_at_call 35; (with_reducible refine (HJ.out _ ?_).mono ?_); (focus (exact HO.out)); rintro e w2 ⟨rfl, g, rfl⟩)
        go_ret2
        exact ⟨by rw [HV2.out]; rfl, (by have hBw2 := HBW.out; have hB2 := HB0.out; exact more_of_below (hB2.trans (Below.mono (by repeat' (first | (with_reducible exact Below.refl _ _) | (with_reducible assumption) | (with_reducible refine below_more ?_ ?_ _) | (with_reducible refine below_drewN ?_ _) | (with_reducible refine Below.drew ?_) | (with_reducible refine Below.alloc ?_ ?_ _) | (with_reducible refine Below.setCell ?_ ?_ _) | go_size | (simp [more_size]; done) | (simp [more_size]; omega))) hB2.size)))⟩
      · have hb1 : (JB.size : Int) ≤ 16384 := by omega
        have HV2 := Lib.hid (HV.out.trans (if_neg hbig))
        have HJB := Lib.hid hJB
        clear hJl hjl hbig HV hJB hlt
        go_wp2_with (go_at_call 35; (with_reducible refine (HJ.out _ ?_).mono ?_); (focus (exact HO.out)); rintro e w2 ⟨rfl, g, rfl⟩)
        go_ret2
        exact ⟨by rw [HV2.out]; show Ending.returned _ = Ending.returned _; rw [HJB.out]; rfl, (by have hBw2 := HBW.out; have hB2 := HB0.out; exact more_of_below (hB2.trans (Below.mono (by repeat' (first | (with_reducible exact Below.refl _ _) | (with_reducible assumption) | (with_reducible refine below_more ?_ ?_ _) | (with_reducible refine below_drewN ?_ _) | (with_reducible refine Below.drew ?_) | (with_reducible refine Below.alloc ?_ ?_ _) | (with_reducible refine Below.setCell ?_ ?_ _) | go_size | (simp [more_size]; done) | (simp [more_size]; omega))) hB2.size)))⟩
end Go.Proofs.YtcoakhahjdnlfaaDoor

namespace Go.Proofs.YtcoakhahjdnlfaaDoor
set_option linter.all false
open Go.RowKit
namespace Tk
def longT (ts : List Tok) : Bool := ts.any fun t => decide (200 < t.2.1.length)
def largeT (ts : List Tok) : Bool := decide (7000 < ts.length) || longT ts
theorem longT_drop (ts : List Tok) (k : Nat) (h : k < ts.length) : longT (ts.drop k) = (decide (200 < ts[k].2.1.length) || longT (ts.drop (k + 1))) := by
  rw [List.drop_eq_getElem_cons h]; rfl
end Tk
set_option maxRecDepth 100000 in
theorem largeT_any (v : Value) (ts : List Tk.Tok) (w : World) (hR : Reads w v ts.length 4 (Tk.tokCells ts)) :
    Calls Tryd.prog 17 #[v] w fun e w' => e = .returned (.bool (Tk.largeT ts)) ∧ w = w' := by
  rcases hR.2 with ⟨h0, a, cap, rfl, -⟩ | ⟨b, off, cap, rfl, hnc, hcm, hbl, hc⟩
  · have hps : ts = [] := List.eq_nil_of_length_eq_zero h0
    subst hps
    clear hR h0
    go_enter Tryd.func17, Tryd.ntmps17
    go_wp2_with fail
    go_loop [3] (fun i => i = .int .i64 0) (fun i => 0)
    case atStart => rfl
    case round =>
      subst hrel
      go_wp2_with fail
      go_ret
      exact ⟨rfl, rfl⟩
  · clear hR
    have hl64 : cap ≤ 9223372036854775807 := by unfold maxLen at hcm; omega
    have hcell : ∀ k, (h : k < ts.length) → w.cell? ⟨b, off + k * 4 + 1, none⟩ = some (.string ⟨ts[k].2.1.toArray⟩) := fun k h => by
      have := hc _ _ (Tk.tokCells_at ts k h).2.1; rwa [← Nat.add_assoc] at this
    have HC := Lib.hid hcell
    clear hc hcell
    by_cases h7 : 7000 < ts.length
    · have hT : Tk.largeT ts = true := by simp [Tk.largeT, h7]
      rw [hT]
      have h7' : (7000 : Int) < (ts.length : Int) := by omega
      clear hT h7
      go_enter Tryd.func17, Tryd.ntmps17
      go_wp2_with fail
      go_ret
      exact ⟨rfl, rfl⟩
    have h7' : (ts.length : Int) ≤ 7000 := by omega
    have hT : Tk.largeT ts = Tk.longT ts := by simp [Tk.largeT, h7]
    rw [hT]
    clear hT h7
    go_enter Tryd.func17, Tryd.ntmps17
    go_wp2_with fail
    go_loop [3] (fun i => ∃ k : Nat, k ≤ ts.length ∧ i = .int .i64 k ∧ Hid (Tk.longT (ts.drop k) = Tk.longT ts)) (fun i => ts.length - (intOf i).toNat)
    case atStart => exact ⟨0, by omega, rfl, Lib.hid rfl⟩
    case round =>
      obtain ⟨k, hk, rfl, HS⟩ := hrel
      by_cases hlt : k < ts.length
      · have c2 := HC.out k hlt
        have HL := Lib.hid (Tk.longT_drop ts k hlt)
        obtain ⟨s, hs⟩ : ∃ s : ByteArray, s = ⟨ts[k].2.1.toArray⟩ := ⟨_, rfl⟩
        have hsl : ts[k].2.1.length = s.size := by rw [hs]; show _ = ts[k].2.1.toArray.size; simp
        rw [← hs] at c2
        rw [hsl] at HL
        clear hs hsl
        by_cases hbig : 200 < s.size
        · have HF := Lib.hid (show Tk.longT ts = true by rw [← HS.out, HL.out]; simp [hbig])
          go_wp2_with fail
          go_ret
          exact ⟨by rw [HF.out]; rfl, rfl⟩
        · have HF := Lib.hid (show Tk.longT (ts.drop (k + 1)) = Tk.longT ts by rw [← HS.out, HL.out]; simp [hbig])
          go_wp2_with fail
          go_round
          case rel => exact ⟨k + 1, by omega, by go_num, HF⟩
          case measure => simp [intOf]; omega
      · have hke : k = ts.length := by omega
        subst hke
        have HF := Lib.hid (show Tk.longT ts = false by rw [← HS.out, List.drop_length]; rfl)
        go_wp2_with fail
        go_ret
        exact ⟨by rw [HF.out]; rfl, rfl⟩
section
open Go.ChangeShapes Go.WideShapes Go.ChangeAt Go.Joins Go.Deep
variable {H : Type} {enc : TypeId × Value → H} {w : World} {base : Nat} {spare : Nat → Bool} {held : Bool}
def Tk.fitT (t : Tk.Tok) : Prop := -9223372036854775808 ≤ t.2.2.1 ∧ t.2.2.1 < 9223372036854775808
set_option maxRecDepth 100000 in
theorem open_tokens {r : Reach} {b0 : Nat} {v : Value} {d : DataW H} {p : List MemPlace} (hv : Value.okWide Tryd.prog w r b0 23 v) (h : DataW.Trod enc Tryd.prog w base spare held 23 v d p) :
    ∃ xs : List Tk.Tok, Reads w v xs.length 4 (Tk.tokCells xs) ∧ ∀ x ∈ xs, Tk.fitT x := by
  refine open_reads (size := 4) (fun t : Tk.Tok => [.int .i64 t.1, .string ⟨t.2.1.toArray⟩, .int .i64 t.2.2.1, .int .i64 t.2.2.2]) Tk.fitT Tryd.underlying23 (by kernel_rfl) (by omega) ?_ (fun _ => by simp) hv h
  intro cs n y hl ht
  match cs, hl with
  | [c0, c1, c2, c3], _ =>
    obtain ⟨n', y0, y1, y2, y3, h0, h1, h2, h3⟩ := trod_struct4 Tryd.underlying34 (by kernel_rfl) ht
    obtain ⟨f, hcf, -, wf⟩ := DataW.trod_int Tryd.underlying3 h0
    obtain ⟨s, hcs, -, ws⟩ := DataW.trod_string Tryd.underlying9 h1
    obtain ⟨k, hck, -, wk⟩ := DataW.trod_int Tryd.underlying3 h2
    obtain ⟨a, hca, -, wa⟩ := DataW.trod_int Tryd.underlying3 h3
    simp at hcf hck hcs hca
    subst hcf hck hcs hca
    exact ⟨(f, s.data.toList, k, a), ⟨Bd.i64_0 wk, Bd.i64_1 wk⟩, by rw [bytes_self]⟩
end
end Go.Proofs.YtcoakhahjdnlfaaDoor
