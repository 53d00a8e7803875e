/- The walk of token.Lex. Conditions: the library's variables are as they were laid; the text's size is bounded. -/
import Derived.Test.YtcoakhahjdnlfaaDoorTokLx
import Derived.Test.YtcoakhahjdnlfaaDoorTokQa
namespace Go.Proofs.YtcoakhahjdnlfaaDoor
set_option linter.all false
open Go.RowKit
set_option maxRecDepth 100000 in
set_option maxHeartbeats 4000000 in
theorem lex_any (s : ByteArray) (w : World) (hg : Gs w) (hs : s.size < 4294967281) :
    Calls Tryd.prog 11 #[.string s] w fun e w' => Tk.LexRet w w' (Tk.lexR s) e ∧ ∃ g, w' = more w g := by
  by_cases hbig : 16384 < s.size
  · have hR : Tk.lexR s = .error (0, 2) := by simp [Tk.lexR, hbig]
    rw [hR]
    clear hR hg
    go_enter Tryd.func11, Tryd.ntmps11
    go_wp2
    go_returns
    exact ⟨rfl, more_refl _⟩
  obtain ⟨R, hR⟩ : ∃ R, Tk.lexR s = R := ⟨_, rfl⟩
  rw [hR]
  have HV := Lib.hid (show R = Tk.lexF s.data.toList 0 0 by rw [← hR]; simp [Tk.lexR, hbig])
  have HG := Lib.hid hg
  obtain ⟨i0, hi, hz0, hz1, hz2⟩ := info_parts info_tok
  clear hR hg
  go_enter Tryd.func11, Tryd.ntmps11
  go_wp2_with (go_at_call 20; refine (begun_any _ HG.out).mono ?_; rintro e w' ⟨⟨x, b1, b2, b3, b4, m, rfl, hL⟩, g0, rfl⟩)
  generalize hW : more w g0 = w' at *
  have HB0 : Below w.heap.size w w' := by rw [← hW]; exact (by repeat' (first | (with_reducible exact Below.refl _ _) | (with_reducible assumption) | (with_reducible refine below_more ?_ ?_ _) | (with_reducible refine below_drewN ?_ _) | (with_reducible refine Below.drew ?_) | (with_reducible refine Below.alloc ?_ ?_ _) | (with_reducible refine Below.setCell ?_ ?_ _) | go_size | (simp [more_size]; done) | (simp [more_size]; omega)))
  have HG0 := Lib.hid (HG.out.below HB0)
  replace HB0 := Lib.hid HB0
  have HL := Lib.hid hL
  clear hW hL HG
  go_loopw [6, 7] (fun v i wr => ∃ (p : Nat) (ts : List Tk.Tok), i = .int .i64 p ∧ p ≤ s.size ∧ ts.length ≤ 6000 ∧ wr.ownsRow w'.heap.size 34 4 v ts.length (Tk.tokCells ts) ∧ Below w'.heap.size w' wr ∧ Hid (R = Tk.pre ts (Tk.lexF (s.data.toList.drop p) p ts.length))) (fun _ i _ => s.size - (intOf i).toNat)
  case atStart => exact ⟨0, [], rfl, by omega, by simp, World.ownsRow_nil _ _ _ _, Below.refl _ _, Lib.hid (by rw [HV.out]; simp only [List.drop_zero, List.length_nil]; cases Tk.lexF s.data.toList 0 0 <;> rfl)⟩
  case round =>
    obtain ⟨p, ts, rfl, hp, hk, hown, hBw, H⟩ := hrel
    have hsz := hBw.size
    have HLw := Lib.hid (HL.out.below hBw)
    have HGw := Lib.hid (HG0.out.below hBw)
    have HO := Lib.hid hown
    obtain ⟨va, cap, rfl, hc1, hc2⟩ := owns_form hown
    have HBW := Lib.hid hBw
    clear hown hBw
    by_cases hlt : p < s.size
    · have hD := Tk.drop_at s p hlt
      have HQl := Lib.hid (Tk.rest_list s p)
      have hQs := Tk.extract_rest_size s p
      generalize hQ : s.extract p s.size = Q at *
      generalize hc : s[p] = c at *
      have h256 : c.toNat < 256 := c.toNat_lt
      cases hbl : Tk.blank c
      · obtain ⟨n9, n10, n13, n32⟩ := Tk.blank_no hbl
        have b9 : ((c.toNat : Int) == 9) = false := by simp; omega
        have b10 : ((c.toNat : Int) == 10) = false := by simp; omega
        have b13 : ((c.toNat : Int) == 13) = false := by simp; omega
        have b32 : ((c.toNat : Int) == 32) = false := by simp; omega
        clear n9 n10 n13 n32
        cases hop : Tk.opens (s.data.toList.drop p)
        · have HP := Lib.hid (hp_any (t := Q) (p := ⟨#[40, 42]⟩) (b := false) (by rw [Tk.hp_take, HQl.out]; exact hop))
          cases ht : Tk.tokF (s.data.toList.drop p) with
          | error ec =>
            have he := Tk.tokF_err ht
            have HV := Lib.hid (show R = .error (p, ec) by
              rw [H.out]
              rw [hD] at ht hop ⊢
              rw [Tk.lexF_err p _ hbl hop ht]; rfl)
            have HT : ∀ W, Tk.Lx W x b1 b2 b3 b4 m → Gs W → Calls Tryd.prog 23 #[.pointer (some ⟨x, 0, none⟩), .string Q] W fun e w' => (∃ f t n a2 m2, e = .returned (.tuple #[.agg #[.int .i64 f, .string t, .int .i64 n, .int .i64 a2], .int .i64 m2, .int .i64 ec])) ∧ ∃ g, w' = more W g :=
              fun W hL hg => (token_any Q x b1 b2 b3 b4 m W (by omega) hL hg (by omega) (.error ec) (by rw [HQl.out]; exact ht)).mono fun e w' ⟨⟨f, t, n, a, m, h⟩, h2⟩ => ⟨⟨f, t, n, a, m, h⟩, h2⟩
            replace HT := Lib.hid HT
            have e1 : (ec == 0) = false := by simp; omega
            have e2 : (ec != 0) = true := by simp; omega
            clear hbl hop ht hD H he
            go_wp2_with (first | (go_at_call 21; (with_reducible refine (HP.out _).mono ?_); rintro e w2 ⟨rfl, rfl⟩) | (go_at_call 23; (with_reducible refine (HT.out _ ?_ ?_).mono ?_); (focus (exact HLw.out.below (by repeat' (first | (with_reducible exact Below.refl _ _) | (with_reducible assumption) | (with_reducible refine below_more ?_ ?_ _) | (with_reducible refine below_drewN ?_ _) | (with_reducible refine Below.drew ?_) | (with_reducible refine Below.alloc ?_ ?_ _) | (with_reducible refine Below.setCell ?_ ?_ _) | go_size | (simp [more_size]; done) | (simp [more_size]; omega))))); (focus (exact HGw.out.below (by repeat' (first | (with_reducible exact Below.refl _ _) | (with_reducible assumption) | (with_reducible refine below_more ?_ ?_ _) | (with_reducible refine below_drewN ?_ _) | (with_reducible refine Below.drew ?_) | (with_reducible refine Below.alloc ?_ ?_ _) | (with_reducible refine Below.setCell ?_ ?_ _) | go_size | (simp [more_size]; done) | (simp [more_size]; omega))))); rintro e w2 ⟨⟨f, t, n, a2, m2, rfl⟩, g, rfl⟩))
            go_returns
            exact ⟨by rw [HV.out]; rfl, (by have hBw2 := HBW.out; have hB2 := HB0.out; exact more_of_below (hB2.trans (Below.mono (by repeat' (first | (with_reducible exact Below.refl _ _) | (with_reducible assumption) | (with_reducible refine below_more ?_ ?_ _) | (with_reducible refine below_drewN ?_ _) | (with_reducible refine Below.drew ?_) | (with_reducible refine Below.alloc ?_ ?_ _) | (with_reducible refine Below.setCell ?_ ?_ _) | go_size | (simp [more_size]; done) | (simp [more_size]; omega))) hB2.size)))⟩
          | ok v4 =>
            obtain ⟨kd, tw, tn, tm⟩ := v4
            have hm := Tk.tokF_len ht
            have hm2 : p + tm ≤ s.size := by have := hm.2; simp at this; omega
            have HT : ∀ W, Tk.Lx W x b1 b2 b3 b4 m → Gs W → Calls Tryd.prog 23 #[.pointer (some ⟨x, 0, none⟩), .string Q] W fun e w' => e = .returned (.tuple #[.agg #[.int .i64 kd, .string ⟨tw.toArray⟩, .int .i64 tn, .int .i64 0], .int .i64 (tm : Int), .int .i64 0]) ∧ ∃ g, w' = more W g :=
              fun W hL hg => (token_any Q x b1 b2 b3 b4 m W (by omega) hL hg (by omega) (.ok (kd, tw, tn, tm)) (by rw [HQl.out]; exact ht)).mono fun e w' ⟨⟨t, h1, h2⟩, h3⟩ => ⟨by rw [h2, ← h1, bytes_self]; rfl, h3⟩
            replace HT := Lib.hid HT
            by_cases h6 : ts.length = 6000
            · have HV := Lib.hid (show R = .error (p, 3) by
                rw [H.out]
                rw [hD] at ht hop ⊢
                rw [Tk.lexF_tok p _ hbl hop ht, if_pos h6]; rfl)
              have h6' : ((ts.length : Int) == 6000) = true := by simp; omega
              clear hbl hop ht hD H
              go_wp2_with (first | (go_at_call 21; (with_reducible refine (HP.out _).mono ?_); rintro e w2 ⟨rfl, rfl⟩) | (go_at_call 23; (with_reducible refine (HT.out _ ?_ ?_).mono ?_); (focus (exact HLw.out.below (by repeat' (first | (with_reducible exact Below.refl _ _) | (with_reducible assumption) | (with_reducible refine below_more ?_ ?_ _) | (with_reducible refine below_drewN ?_ _) | (with_reducible refine Below.drew ?_) | (with_reducible refine Below.alloc ?_ ?_ _) | (with_reducible refine Below.setCell ?_ ?_ _) | go_size | (simp [more_size]; done) | (simp [more_size]; omega))))); (focus (exact HGw.out.below (by repeat' (first | (with_reducible exact Below.refl _ _) | (with_reducible assumption) | (with_reducible refine below_more ?_ ?_ _) | (with_reducible refine below_drewN ?_ _) | (with_reducible refine Below.drew ?_) | (with_reducible refine Below.alloc ?_ ?_ _) | (with_reducible refine Below.setCell ?_ ?_ _) | go_size | (simp [more_size]; done) | (simp [more_size]; omega))))); rintro e w2 ⟨rfl, g, rfl⟩))
              go_returns
              exact ⟨by rw [HV.out]; rfl, (by have hBw2 := HBW.out; have hB2 := HB0.out; exact more_of_below (hB2.trans (Below.mono (by repeat' (first | (with_reducible exact Below.refl _ _) | (with_reducible assumption) | (with_reducible refine below_more ?_ ?_ _) | (with_reducible refine below_drewN ?_ _) | (with_reducible refine Below.drew ?_) | (with_reducible refine Below.alloc ?_ ?_ _) | (with_reducible refine Below.setCell ?_ ?_ _) | go_size | (simp [more_size]; done) | (simp [more_size]; omega))) hB2.size)))⟩
            · have HV := Lib.hid (show R = Tk.pre (ts ++ [(kd, tw, tn, (p : Int))]) (Tk.lexF (s.data.toList.drop (p + tm)) (p + tm) (ts ++ [(kd, tw, tn, (p : Int))]).length) by
                rw [H.out]
                rw [← List.drop_drop, List.length_append, List.length_singleton]
                rw [hD] at ht hop ⊢
                rw [Tk.lexF_tok p _ hbl hop ht, if_neg h6]
                exact Tk.pre_tok _ _ _)
              have h6' : ((ts.length : Int) == 6000) = false := by simp; omega
              have HN := Lib.hid (Tk.tokCells_snoc ts (kd, tw, tn, (p : Int)))
              have hm1 := hm.1
              clear hbl hop ht hD H hm
              go_wp2_with (first | (go_at_call 21; (with_reducible refine (HP.out _).mono ?_); rintro e w2 ⟨rfl, rfl⟩) | (go_at_call 23; (with_reducible refine (HT.out _ ?_ ?_).mono ?_); (focus (exact HLw.out.below (by repeat' (first | (with_reducible exact Below.refl _ _) | (with_reducible assumption) | (with_reducible refine below_more ?_ ?_ _) | (with_reducible refine below_drewN ?_ _) | (with_reducible refine Below.drew ?_) | (with_reducible refine Below.alloc ?_ ?_ _) | (with_reducible refine Below.setCell ?_ ?_ _) | go_size | (simp [more_size]; done) | (simp [more_size]; omega))))); (focus (exact HGw.out.below (by repeat' (first | (with_reducible exact Below.refl _ _) | (with_reducible assumption) | (with_reducible refine below_more ?_ ?_ _) | (with_reducible refine below_drewN ?_ _) | (with_reducible refine Below.drew ?_) | (with_reducible refine Below.alloc ?_ ?_ _) | (with_reducible refine Below.setCell ?_ ?_ _) | go_size | (simp [more_size]; done) | (simp [more_size]; omega))))); rintro e w2 ⟨rfl, g, rfl⟩) | (at_builtin; refine wpList_append_reads rfl _ _ 23 rfl w'.heap.size 34 i0 (.agg #[.int .i64 0, .string ⟨#[]⟩, .int .i64 0, .int .i64 0]) 4 40 Tryd.underlying23 hi hz0 hz1 hz2 rfl (by decide) _ ts.length _ rfl (owns_kept HO.out ?_) _ 1 [.int .i64 kd, .string ⟨tw.toArray⟩, .int .i64 tn, .int .i64 p] rfl (reads_token _ _ _ _ _ _ 34 ?_) ?_ ?_ ?_ ?_ ?_; (focus (exact (by repeat' (first | (with_reducible exact Below.refl _ _) | (with_reducible assumption) | (with_reducible refine below_more ?_ ?_ _) | (with_reducible refine below_drewN ?_ _) | (with_reducible refine Below.drew ?_) | (with_reducible refine Below.alloc ?_ ?_ _) | (with_reducible refine Below.setCell ?_ ?_ _) | go_size | (simp [more_size]; done) | (simp [more_size]; omega))))); (focus (simp [more_size]; done)); (focus (intro q hq; simp at hq; rcases hq with rfl | rfl | rfl | rfl <;> rfl)); (focus (unfold maxLen; omega)); (focus omega); (focus (first | (simp [more_size]; omega) | omega)); intro v' w1 hown' hgrow))
              have hBn : Below w'.heap.size w' w1 := by
                refine below_grown ?_ ?_ hgrow (owns_rows HO.out)
                · have hBw2 := HBW.out; exact (by repeat' (first | (with_reducible exact Below.refl _ _) | (with_reducible assumption) | (with_reducible refine below_more ?_ ?_ _) | (with_reducible refine below_drewN ?_ _) | (with_reducible refine Below.drew ?_) | (with_reducible refine Below.alloc ?_ ?_ _) | (with_reducible refine Below.setCell ?_ ?_ _) | go_size | (simp [more_size]; done) | (simp [more_size]; omega)))
                · first | (simp [more_size]; omega) | omega
              have HX := Lib.hid hown'
              have HY := Lib.hid hBn
              clear hown' hBn hgrow
              go_roundw
              case rel => exact ⟨p + tm, ts ++ [(kd, tw, tn, (p : Int))], by go_num, hm2, by simp; omega, by rw [HN.out, List.length_append, List.length_singleton]; exact HX.out, HY.out, HV⟩
              case measure => simp [intOf]; omega
        · have HP := Lib.hid (hp_any (t := Q) (p := ⟨#[40, 42]⟩) (b := true) (by rw [Tk.hp_take, HQl.out]; exact hop))
          cases hcm : Tk.cmt (s.data.toList.drop p) 0 with
          | none =>
            have HV := Lib.hid (show R = .error (p, 90) by
              rw [H.out]
              rw [hD] at hcm hop ⊢
              rw [Tk.lexF_cmt_none p _ hbl hop hcm]; rfl)
            have HC : ∀ W, Calls Tryd.prog 22 #[.string Q] W fun e w' => e = .returned (.int .i64 0) ∧ w' = W := fun W => (comment_any Q W (by omega)).mono fun e w' ⟨h1, h2⟩ => ⟨by rw [h1, HQl.out, hcm]; rfl, h2⟩
            replace HC := Lib.hid HC
            clear hbl hop hcm hD H
            go_wp2_with (first | (go_at_call 21; (with_reducible refine (HP.out _).mono ?_); rintro e w2 ⟨rfl, rfl⟩) | (go_at_call 22; (with_reducible refine (HC.out _).mono ?_); rintro e w2 ⟨rfl, rfl⟩))
            go_returns
            exact ⟨by rw [HV.out]; rfl, (by have hBw2 := HBW.out; have hB2 := HB0.out; exact more_of_below (hB2.trans (Below.mono (by repeat' (first | (with_reducible exact Below.refl _ _) | (with_reducible assumption) | (with_reducible refine below_more ?_ ?_ _) | (with_reducible refine below_drewN ?_ _) | (with_reducible refine Below.drew ?_) | (with_reducible refine Below.alloc ?_ ?_ _) | (with_reducible refine Below.setCell ?_ ?_ _) | go_size | (simp [more_size]; done) | (simp [more_size]; omega))) hB2.size)))⟩
          | some n =>
            have hn := Tk.cmt_len _ _ _ hcm
            have hn2 : p + n ≤ s.size := by have := hn.2; simp at this; omega
            have HV := Lib.hid (show R = Tk.pre ts (Tk.lexF (s.data.toList.drop (p + n)) (p + n) ts.length) by
              rw [H.out]
              rw [← List.drop_drop]
              rw [hD] at hcm hop ⊢
              rw [Tk.lexF_cmt p _ hbl hop hcm])
            have HC : ∀ W, Calls Tryd.prog 22 #[.string Q] W fun e w' => e = .returned (.int .i64 n) ∧ w' = W := fun W => (comment_any Q W (by omega)).mono fun e w' ⟨h1, h2⟩ => ⟨by rw [h1, HQl.out, hcm]; rfl, h2⟩
            replace HC := Lib.hid HC
            have hn1 := hn.1
            have hn0 : ((n : Int) == 0) = false := by simp; omega
            clear hbl hop hcm hD H hn
            go_wp2_with (first | (go_at_call 21; (with_reducible refine (HP.out _).mono ?_); rintro e w2 ⟨rfl, rfl⟩) | (go_at_call 22; (with_reducible refine (HC.out _).mono ?_); rintro e w2 ⟨rfl, rfl⟩))
            refine ⟨⟨p + n, ts, by go_num, hn2, hk, HO.out, HBW.out, HV⟩, by simp [intOf]; omega⟩
      · have HV := Lib.hid (show R = Tk.pre ts (Tk.lexF (s.data.toList.drop (p + 1)) (p + 1) ts.length) by rw [H.out, hD, Tk.lexF_blank p _ hbl])
        have hor := (Tk.blank_iff c).1 hbl
        clear hbl hD H
        rcases hor with h | h | h | h
        · have b9 : ((c.toNat : Int) == 9) = true := by simp; omega
          go_wp2
          refine ⟨⟨p + 1, ts, by go_num, by omega, hk, HO.out, HBW.out, HV⟩, by simp [intOf]; omega⟩
        · have b9 : ((c.toNat : Int) == 9) = false := by simp; omega
          have b10 : ((c.toNat : Int) == 10) = true := by simp; omega
          go_wp2
          refine ⟨⟨p + 1, ts, by go_num, by omega, hk, HO.out, HBW.out, HV⟩, by simp [intOf]; omega⟩
        · have b9 : ((c.toNat : Int) == 9) = false := by simp; omega
          have b10 : ((c.toNat : Int) == 10) = false := by simp; omega
          have b13 : ((c.toNat : Int) == 13) = true := by simp; omega
          go_wp2
          refine ⟨⟨p + 1, ts, by go_num, by omega, hk, HO.out, HBW.out, HV⟩, by simp [intOf]; omega⟩
        · have b9 : ((c.toNat : Int) == 9) = false := by simp; omega
          have b10 : ((c.toNat : Int) == 10) = false := by simp; omega
          have b13 : ((c.toNat : Int) == 13) = false := by simp; omega
          have b32 : ((c.toNat : Int) == 32) = true := by simp; omega
          go_wp2
          refine ⟨⟨p + 1, ts, by go_num, by omega, hk, HO.out, HBW.out, HV⟩, by simp [intOf]; omega⟩
    · have he : p = s.size := by omega
      have HV := Lib.hid (show R = .ok ts by rw [H.out, List.drop_eq_nil_of_le (by simp; omega), Tk.lexF_nil]; simp [Tk.pre])
      clear H
      go_wp2
      go_returns
      refine ⟨?_, (by have hBw2 := HBW.out; have hB2 := HB0.out; exact more_of_below (hB2.trans (Below.mono (by repeat' (first | (with_reducible exact Below.refl _ _) | (with_reducible assumption) | (with_reducible refine below_more ?_ ?_ _) | (with_reducible refine below_drewN ?_ _) | (with_reducible refine Below.drew ?_) | (with_reducible refine Below.alloc ?_ ?_ _) | (with_reducible refine Below.setCell ?_ ?_ _) | go_size | (simp [more_size]; done) | (simp [more_size]; omega))) hB2.size)))⟩
      rw [HV.out]
      exact ⟨_, rfl, Reads.of_owns HO.out, hk, owns_down HO.out HB0.out.size⟩
end Go.Proofs.YtcoakhahjdnlfaaDoor
