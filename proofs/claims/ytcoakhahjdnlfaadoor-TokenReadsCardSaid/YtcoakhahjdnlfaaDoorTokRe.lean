/- The walk of the document's Lex. Conditions: the text's size is bounded. -/
import Derived.Test.YtcoakhahjdnlfaaDoorTokRd
import Derived.Test.YtcoakhahjdnlfaaDoorTokLx
namespace Go.Proofs.YtcoakhahjdnlfaaDoor
set_option linter.all false
open Go.RowKit
namespace Tk
theorem skip_ret {s : ByteArray} {p : Nat} {e : Ending} (h : SkipRet s p e) : ∃ q b, e = .returned (.tuple #[.int .i64 ((q : Nat) : Int), .bool b]) ∧ Hid (skips s p q b) := h
end Tk
set_option maxRecDepth 1000000 in
set_option maxHeartbeats 4000000 in
theorem rlex_any (s : ByteArray) (w : World) (hs : s.size < 4294967281) :
    Calls Tryd.prog 12 #[.string s] w fun e w' => Tk.LexRet w w' (Tk.lexR s) e ∧ ∃ g, w' = more w g := by
  by_cases hbig : 16384 < s.size
  · have hR : Tk.lexR s = .error (0, 2) := by simp [Tk.lexR, hbig]
    rw [hR]
    clear hR
    go_enter Tryd.func12, Tryd.ntmps12
    go_wp2
    go_returns
    exact ⟨rfl, more_refl _⟩
  obtain ⟨R, hR⟩ : ∃ R, Tk.lexR s = R := ⟨_, rfl⟩
  rw [hR]
  have HV := Lib.hid (show R = Tk.lexF s.data.toList 0 0 by rw [← hR]; simp [Tk.lexR, hbig])
  obtain ⟨i0, hi, hz0, hz1, hz2⟩ := info_parts info_tok
  clear hR
  have HS := Lib.hid (fun p hp W => rskip_any s p W hs hp)
  go_enter Tryd.func12, Tryd.ntmps12
  go_wp2_with (go_at_call 24; (refine (rskip_any s 0 w hs (Nat.zero_le _)).mono ?_); rintro e w' ⟨hsk, rfl⟩; obtain ⟨q0, b0, rfl, HK⟩ := Tk.skip_ret hsk)
  have HK2 := Lib.hid (show R = if b0 then Tk.lexF (s.data.toList.drop q0) q0 0 else .error (q0, 90) by rw [HV.out]; have := HK.out.1 0; simpa using this)
  have hq0 := HK.out.2.2.1
  have HK3 := Lib.hid HK.out.2.2.2
  clear HK HV hsk
  go_loopw [5, 6, 7] (fun v i sb wr => ∃ (p : Nat) (b : Bool) (ts : List Tk.Tok), i = .int .i64 p ∧ sb = .bool b ∧ p ≤ s.size ∧ ts.length ≤ 6000 ∧ wr.ownsRow w'.heap.size 34 4 v ts.length (Tk.tokCells ts) ∧ Below w'.heap.size w' wr ∧ Hid (R = if b then Tk.pre ts (Tk.lexF (s.data.toList.drop p) p ts.length) else .error (p, 90)) ∧ Hid (b = true → Tk.stop s p)) (fun _ i sb _ => (s.size - (intOf i).toNat) + (match sb with | .bool true => 1 | _ => 0))
  case atStart => exact ⟨q0, b0, [], rfl, rfl, hq0, by simp, World.ownsRow_nil _ _ _ _, Below.refl _ _, Lib.hid (by rw [HK2.out]; cases b0 <;> simp [Tk.pre]; cases Tk.lexF (s.data.toList.drop q0) q0 0 <;> rfl), HK3⟩
  case round =>
    obtain ⟨p, b, ts, rfl, rfl, hp, hk, hown, hBw, H, HSt⟩ := hrel
    have hsz := hBw.size
    have HO := Lib.hid hown
    obtain ⟨va, cap, rfl, hc1, hc2⟩ := owns_form hown
    have HBW := Lib.hid hBw
    clear hown hBw
    cases b
    · have HN := Lib.hid (show R = .error (p, 90) by rw [H.out]; rfl)
      clear H HSt
      go_wp2
      go_returns
      refine ⟨?_, (by have hBw2 := HBW.out; exact more_of_below hBw2)⟩
      rw [HN.out]
      rfl
    · have H := Lib.hid (show R = Tk.pre ts (Tk.lexF (s.data.toList.drop p) p ts.length) by rw [H.out]; rfl)
      by_cases hlt : p < s.size
      · have hst : Tk.blank s[p] = false ∧ Tk.opens (s.data.toList.drop p) = false := by
          rcases HSt.out rfl with h | ⟨_, h⟩
          · omega
          · exact h
        clear HSt
        obtain ⟨hbl, hop⟩ := hst
        have hD := Tk.drop_at s p hlt
        cases ht : Tk.tokF (s.data.toList.drop p) with
        | error ec =>
          have he := Tk.tokF_err ht
          have HN := Lib.hid (show R = .error (p, ec) by
            rw [H.out]
            rw [hD] at ht hop ⊢
            rw [Tk.lexF_err p _ hbl hop ht]; rfl)
          have HT : ∀ W, Calls Tryd.prog 25 #[.string s, .int .i64 p] W fun e w' => (∃ f t n a2 m2, e = .returned (.tuple #[.agg #[.int .i64 f, .string t, .int .i64 n, .int .i64 a2], .int .i64 m2, .int .i64 ec])) ∧ ∃ g, w' = more W g :=
            fun W => (rone_any s p W hs hlt (.error ec) ht).mono fun e w' ⟨⟨f, t, n, a, m, h⟩, h2⟩ => ⟨⟨f, t, n, a, m, h⟩, h2⟩
          replace HT := Lib.hid HT
          have e1 : (ec == 0) = false := by simp; omega
          have e2 : (ec != 0) = true := by simp; omega
          clear hbl hop ht hD H he
          go_wp2_with (go_at_call 25; (with_reducible refine (HT.out _).mono ?_); rintro e w2 ⟨⟨f, t, n, a2, m2, rfl⟩, g, rfl⟩)
          go_returns
          refine ⟨?_, (by have hBw2 := HBW.out; exact more_of_below (by repeat' (first | (with_reducible exact Below.refl _ _) | (with_reducible assumption) | (with_reducible refine below_more ?_ ?_ _) | (with_reducible refine below_drewN ?_ _) | (with_reducible refine Below.drew ?_) | (with_reducible refine Below.alloc ?_ ?_ _) | (with_reducible refine Below.setCell ?_ ?_ _) | go_size | (simp [more_size]; done) | (simp [more_size]; omega))))⟩
          rw [HN.out]
          rfl
        | ok v4 =>
          obtain ⟨kd, tw, tn, tm⟩ := v4
          have hm := Tk.tokF_len ht
          have hm2 : p + tm ≤ s.size := by have := hm.2; simp at this; omega
          have HT : ∀ W, Calls Tryd.prog 25 #[.string s, .int .i64 p] W fun e w' => e = .returned (.tuple #[.agg #[.int .i64 kd, .string ⟨tw.toArray⟩, .int .i64 tn, .int .i64 p], .int .i64 ((tm + p : Nat) : Int), .int .i64 0]) ∧ ∃ g, w' = more W g :=
            fun W => (rone_any s p W hs hlt (.ok (kd, tw, tn, tm)) ht).mono fun e w' ⟨⟨t, h1, h2⟩, h3⟩ => ⟨by rw [h2, ← h1, bytes_self]; rfl, h3⟩
          replace HT := Lib.hid HT
          by_cases h6 : ts.length = 6000
          · have HN := Lib.hid (show R = .error (p, 3) by
              rw [H.out]
              rw [hD] at ht hop ⊢
              rw [Tk.lexF_tok p _ hbl hop ht, if_pos h6]; rfl)
            have h6' : ((ts.length : Int) == 6000) = true := by simp; omega
            clear hbl hop ht hD H h6
            go_wp2_with (go_at_call 25; (with_reducible refine (HT.out _).mono ?_); rintro e w2 ⟨rfl, g, rfl⟩)
            go_returns
            refine ⟨?_, (by have hBw2 := HBW.out; exact more_of_below (by repeat' (first | (with_reducible exact Below.refl _ _) | (with_reducible assumption) | (with_reducible refine below_more ?_ ?_ _) | (with_reducible refine below_drewN ?_ _) | (with_reducible refine Below.drew ?_) | (with_reducible refine Below.alloc ?_ ?_ _) | (with_reducible refine Below.setCell ?_ ?_ _) | go_size | (simp [more_size]; done) | (simp [more_size]; omega))))⟩
            rw [HN.out]
            rfl
          · have HV := Lib.hid (show R = Tk.pre (ts ++ [(kd, tw, tn, (p : Int))]) (Tk.lexF (s.data.toList.drop (p + tm)) (p + tm) (ts ++ [(kd, tw, tn, (p : Int))]).length) by
              rw [H.out]
              rw [← List.drop_drop, List.length_append, List.length_singleton]
              rw [hD] at ht hop ⊢
              rw [Tk.lexF_tok p _ hbl hop ht, if_neg h6]
              exact Tk.pre_tok _ _ _)
            have h6' : ((ts.length : Int) == 6000) = false := by simp; omega
            have hk6 : ts.length < 6000 := by omega
            have HN := Lib.hid (Tk.tokCells_snoc ts (kd, tw, tn, (p : Int)))
            have hm1 := hm.1
            have HSk : ∀ W, Calls Tryd.prog 24 #[.string s, .int .i64 ((tm : Int) + p)] W fun e w' => Tk.SkipRet s (p + tm) e ∧ w' = W := fun W => by
              have := rskip_any s (p + tm) W hs hm2
              rw [show ((tm : Int) + p) = ((p + tm : Nat) : Int) by omega]
              exact this
            replace HSk := Lib.hid HSk
            clear hbl hop ht hD H hm h6
            go_wp2_with (first | (go_at_call 25; (with_reducible refine (HT.out _).mono ?_); rintro e w2 ⟨rfl, g, rfl⟩) | (at_builtin; refine wpList_append_reads rfl _ _ 23 rfl w'.heap.size 34 i0 (.agg #[.int .i64 0, .string ⟨#[]⟩, .int .i64 0, .int .i64 0]) 4 40 Tryd.underlying23 hi hz0 hz1 hz2 rfl (by decide) _ ts.length _ rfl (owns_kept HO.out ?_) _ 1 [.int .i64 kd, .string ⟨tw.toArray⟩, .int .i64 tn, .int .i64 p] rfl (reads_token _ _ _ _ _ _ 34 ?_) ?_ ?_ ?_ ?_ ?_; (focus (exact (by repeat' (first | (with_reducible exact Below.refl _ _) | (with_reducible assumption) | (with_reducible refine below_more ?_ ?_ _) | (with_reducible refine below_drewN ?_ _) | (with_reducible refine Below.drew ?_) | (with_reducible refine Below.alloc ?_ ?_ _) | (with_reducible refine Below.setCell ?_ ?_ _) | go_size | (simp [more_size]; done) | (simp [more_size]; omega))))); (focus (simp [more_size]; done)); (focus (intro q hq; simp at hq; rcases hq with rfl | rfl | rfl | rfl <;> rfl)); (focus (unfold maxLen; omega)); (focus omega); (focus (first | (simp [more_size]; omega) | omega)); intro v' w1 hown' hgrow))
            have hBn : Below w'.heap.size w' w1 := by
              refine below_grown ?_ ?_ hgrow (owns_rows HO.out)
              · have hBw2 := HBW.out; exact (by repeat' (first | (with_reducible exact Below.refl _ _) | (with_reducible assumption) | (with_reducible refine below_more ?_ ?_ _) | (with_reducible refine below_drewN ?_ _) | (with_reducible refine Below.drew ?_) | (with_reducible refine Below.alloc ?_ ?_ _) | (with_reducible refine Below.setCell ?_ ?_ _) | go_size | (simp [more_size]; done) | (simp [more_size]; omega)))
              · first | (simp [more_size]; omega) | omega
            have HX := Lib.hid hown'
            have HY := Lib.hid hBn
            clear hown' hBn hgrow
            go_wp2_with (go_at_call 24; (with_reducible refine (HSk.out _).mono ?_); rintro e w3 ⟨hsk, rfl⟩; obtain ⟨q1, b1, rfl, HK⟩ := Tk.skip_ret hsk)
            have hq1 := HK.out.2.2.1
            have hq2 := HK.out.2.1
            have HK3 := Lib.hid HK.out.2.2.2
            have HV2 := Lib.hid (show R = if b1 then Tk.pre (ts ++ [(kd, tw, tn, (p : Int))]) (Tk.lexF (s.data.toList.drop q1) q1 (ts ++ [(kd, tw, tn, (p : Int))]).length) else .error (q1, 90) by
              rw [HV.out, HK.out.1]; cases b1 <;> rfl)
            clear HV HK hsk
            go_roundw
            case rel => exact ⟨q1, b1, ts ++ [(kd, tw, tn, (p : Int))], rfl, rfl, hq1, by simp; omega, by rw [HN.out, List.length_append, List.length_singleton]; exact HX.out, HY.out, HV2, HK3⟩
            case measure => cases b1 <;> simp [intOf] <;> omega
      · have HN := Lib.hid (show R = .ok ts by rw [H.out, List.drop_eq_nil_of_le (by simp; omega), Tk.lexF_nil]; simp [Tk.pre])
        clear H HSt
        go_wp2
        go_returns
        refine ⟨?_, (by have hBw2 := HBW.out; exact more_of_below hBw2)⟩
        rw [HN.out]
        exact ⟨_, rfl, Reads.of_owns HO.out, hk, HO.out⟩
end Go.Proofs.YtcoakhahjdnlfaaDoor
