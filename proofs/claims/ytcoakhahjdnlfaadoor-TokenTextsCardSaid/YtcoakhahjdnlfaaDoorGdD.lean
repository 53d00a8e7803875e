/- The walks of the document's One and Text. Conditions: the tokens are good, or not too large. -/
import Derived.Test.YtcoakhahjdnlfaaDoorGdC
import Derived.Test.YtcoakhahjdnlfaaDoorTokTx
import Derived.Lib.AppendStr
namespace Go.Proofs.YtcoakhahjdnlfaaDoor
set_option linter.all false
open Go.RowKit
set_option maxRecDepth 100000 in
set_option maxHeartbeats 3200000 in
theorem rOne_any (kd n at_ : Int) (tw : ByteArray) (w : World) (hs : tw.size ≤ 4000000000) (hn : kd = 3 ∨ kd = 4 → -2147483648 ≤ n ∧ n < 2147483648) (h4n : kd = 4 → 0 ≤ n) :
    Calls Tryd.prog 37 #[.agg #[.int .i64 kd, .string tw, .int .i64 n, .int .i64 at_]] w fun e w' => (∃ t : ByteArray, Hid (t.data.toList = Tk.spell kd tw.data.toList n) ∧ e = .returned (.string t)) ∧ ∃ g, w' = more w g := by
  by_cases h3 : kd = 3
  · subst h3
    obtain ⟨n0, n1⟩ := hn (.inl rfl)
    clear hn h4n
    by_cases hneg : n < 0
    · have HP := Lib.hid (show Tk.spell 3 tw.data.toList n = Tk.hexed (n % 4294967296).toNat true ++ [72] by unfold Tk.spell; rw [if_pos rfl, if_pos hneg])
      obtain ⟨z, hz⟩ : ∃ z : Int, z = n + 4294967296 := ⟨_, rfl⟩
      have hzm : ((n % 4294967296).toNat : Int) = z := by omega
      have HX : Hid (∀ W, Calls Tryd.prog 68 #[.int .i64 z, .bool true] W fun e w' => (∃ t : ByteArray, (Hid (t.data.toList = Tk.hexed (n % 4294967296).toNat true) ∧ t.size ≤ 9) ∧ e = .returned (.string t)) ∧ ∃ g, w' = more W g) :=
        Lib.hid (fun W => by
          have h := rhex_any (n % 4294967296).toNat true W (by omega)
          rw [hzm] at h
          exact h.mono fun e w' ⟨⟨t, h1, h2⟩, h3⟩ => ⟨⟨t, ⟨h1, by rw [str_len h1.out]; exact Tk.hexed_len _ true (by omega)⟩, h2⟩, h3⟩)
      have hz2 : n + 4294967296 = z := hz.symm
      clear hz hzm
      go_enter Tryd.func37, Tryd.ntmps37
      go_wp2_with (go_at_call 68; (with_reducible refine (HX.out _).mono ?_); rintro e w3 ⟨⟨t, ⟨ht, hts⟩, rfl⟩, g2, rfl⟩)
      go_ret
      refine ⟨⟨_, Lib.hid ?_, rfl⟩, more_of_below (by repeat' (first | (with_reducible exact Below.refl _ _) | (with_reducible assumption) | (with_reducible refine below_more ?_ ?_ _) | (with_reducible refine below_drewN ?_ _) | (with_reducible refine Below.drew ?_) | (with_reducible refine Below.alloc ?_ ?_ _) | (with_reducible refine Below.setCell ?_ ?_ _) | go_size | (simp [more_size]; done) | (simp [more_size]; omega)))⟩
      rw [HP.out]; simp [ByteArray.data_append, ht.out]
    · have hn0 : 0 ≤ n := by omega
      have HP := Lib.hid (show Tk.spell 3 tw.data.toList n = Tk.decN n.toNat by unfold Tk.spell; rw [if_pos rfl, if_neg hneg])
      have HD : Hid (∀ W, Calls Tryd.prog 31 #[.int .i64 n] W fun e w' => e = .returned (.string ⟨(Tk.decN n.toNat).toArray⟩) ∧ ∃ g, w' = more W g) :=
        Lib.hid (fun W => by have h := rdec_any n.toNat (by omega) W; rwa [show ((n.toNat : Nat) : Int) = n from by omega] at h)
      clear hneg
      go_enter Tryd.func37, Tryd.ntmps37
      go_wp2_with (go_at_call 31; (with_reducible refine (HD.out _).mono ?_); rintro e w3 ⟨rfl, g2, rfl⟩)
      go_ret
      exact ⟨⟨_, Lib.hid HP.out.symm, rfl⟩, more_of_below (by repeat' (first | (with_reducible exact Below.refl _ _) | (with_reducible assumption) | (with_reducible refine below_more ?_ ?_ _) | (with_reducible refine below_drewN ?_ _) | (with_reducible refine Below.drew ?_) | (with_reducible refine Below.alloc ?_ ?_ _) | (with_reducible refine Below.setCell ?_ ?_ _) | go_size | (simp [more_size]; done) | (simp [more_size]; omega)))⟩
  have e3 : (kd == 3) = false := by simpa using h3
  by_cases h4 : kd = 4
  · subst h4
    obtain ⟨n0, n1⟩ := hn (.inr rfl)
    have n00 := h4n rfl
    have HP := Lib.hid (show Tk.spell 4 tw.data.toList n = Tk.hexed (n % 4294967296).toNat false ++ [88] by unfold Tk.spell; rw [if_neg (by decide), if_pos rfl])
    have HX : Hid (∀ W, Calls Tryd.prog 68 #[.int .i64 n, .bool false] W fun e w' => (∃ t : ByteArray, (Hid (t.data.toList = Tk.hexed (n % 4294967296).toNat false) ∧ t.size ≤ 9) ∧ e = .returned (.string t)) ∧ ∃ g, w' = more W g) :=
      Lib.hid (fun W => by
        have h := rhex_any (n % 4294967296).toNat false W (by omega)
        rw [show ((n % 4294967296).toNat : Int) = n from by omega] at h
        exact h.mono fun e w' ⟨⟨t, h1, h2⟩, h3⟩ => ⟨⟨t, ⟨h1, by rw [str_len h1.out]; exact Tk.hexed_len _ false (by omega)⟩, h2⟩, h3⟩)
    clear hn h4n h3
    go_enter Tryd.func37, Tryd.ntmps37
    go_wp2_with (go_at_call 68; (with_reducible refine (HX.out _).mono ?_); rintro e w3 ⟨⟨t, ⟨ht, hts⟩, rfl⟩, g2, rfl⟩)
    go_ret
    refine ⟨⟨_, Lib.hid ?_, rfl⟩, more_of_below (by repeat' (first | (with_reducible exact Below.refl _ _) | (with_reducible assumption) | (with_reducible refine below_more ?_ ?_ _) | (with_reducible refine below_drewN ?_ _) | (with_reducible refine Below.drew ?_) | (with_reducible refine Below.alloc ?_ ?_ _) | (with_reducible refine Below.setCell ?_ ?_ _) | go_size | (simp [more_size]; done) | (simp [more_size]; omega)))⟩
    rw [HP.out]; simp [ByteArray.data_append, ht.out]
  have e4 : (kd == 4) = false := by simpa using h4
  clear hn h4n
  by_cases h5 : kd = 5
  · subst h5
    have HP := Lib.hid (show Tk.spell 5 tw.data.toList n = 34 :: (tw.data.toList ++ [34]) by unfold Tk.spell; rw [if_neg (by decide), if_neg (by decide), if_pos rfl])
    clear h3 h4
    go_enter Tryd.func37, Tryd.ntmps37
    go_wp2
    go_ret
    refine ⟨⟨_, Lib.hid ?_, rfl⟩, more_of_below (by repeat' (first | (with_reducible exact Below.refl _ _) | (with_reducible assumption) | (with_reducible refine below_more ?_ ?_ _) | (with_reducible refine below_drewN ?_ _) | (with_reducible refine Below.drew ?_) | (with_reducible refine Below.alloc ?_ ?_ _) | (with_reducible refine Below.setCell ?_ ?_ _) | go_size | (simp [more_size]; done) | (simp [more_size]; omega)))⟩
    rw [HP.out]; simp [ByteArray.data_append]
  have e5 : (kd == 5) = false := by simpa using h5
  have HP := Lib.hid (show Tk.spell kd tw.data.toList n = tw.data.toList by unfold Tk.spell; rw [if_neg h3, if_neg h4, if_neg h5])
  clear h3 h4 h5
  go_enter Tryd.func37, Tryd.ntmps37
  go_wp2
  go_ret
  exact ⟨⟨_, Lib.hid HP.out.symm, rfl⟩, more_of_below (by repeat' (first | (with_reducible exact Below.refl _ _) | (with_reducible assumption) | (with_reducible refine below_more ?_ ?_ _) | (with_reducible refine below_drewN ?_ _) | (with_reducible refine Below.drew ?_) | (with_reducible refine Below.alloc ?_ ?_ _) | (with_reducible refine Below.setCell ?_ ?_ _) | go_size | (simp [more_size]; done) | (simp [more_size]; omega)))⟩
theorem rGood_at (t : Tk.Tok) (w : World) (hs : Tk.smallT t) :
    Calls Tryd.prog 36 #[tokV t] w fun e w' => Tk.GdRet t.1 t.2.1 t.2.2.1 e ∧ ∃ g, w' = more w g :=
  rGood_any t.1 t.2.2.1 t.2.2.2 ⟨t.2.1.toArray⟩ w (by show t.2.1.toArray.size < _; have := hs.1; simp; omega)
theorem rGood_is (t : Tk.Tok) (b : Bool) (w : World) (hs : Tk.smallT t) (hb : b = true ↔ Tk.goodT t) :
    Calls Tryd.prog 36 #[tokV t] w fun e w' => e = .returned (.bool b) ∧ ∃ g, w' = more w g :=
  (rGood_at t w hs).mono fun e w' ⟨⟨b', h1, h2⟩, h3⟩ => ⟨by
    have : b' = b := by rw [Bool.eq_iff_iff]; exact h2.trans hb.symm
    rw [h1, this], h3⟩
theorem rOne_at (t : Tk.Tok) (w : World) (hs : Tk.smallT t) (hg : Tk.goodT t) :
    Calls Tryd.prog 37 #[tokV t] w fun e w' => e = .returned (.string ⟨(Tk.spellT t).toArray⟩) ∧ ∃ g, w' = more w g := by
  have hb : t.1 = 3 ∨ t.1 = 4 → -2147483648 ≤ t.2.2.1 ∧ t.2.2.1 < 2147483648 := by
    intro h
    rcases hg with ⟨h1, _⟩ | ⟨h1, _⟩ | ⟨_, _, h2, h3⟩ | ⟨_, _, h2, h3⟩ | ⟨h1, _⟩ | ⟨h1, _⟩ <;> omega
  have hb4 : t.1 = 4 → 0 ≤ t.2.2.1 := by
    intro h
    rcases hg with ⟨h1, _⟩ | ⟨h1, _⟩ | ⟨h1, _, h2, h3⟩ | ⟨_, _, h2, h3⟩ | ⟨h1, _⟩ | ⟨h1, _⟩ <;> omega
  refine (rOne_any t.1 t.2.2.1 t.2.2.2 ⟨t.2.1.toArray⟩ w (by show t.2.1.toArray.size ≤ _; have := hs.1; simp; omega) hb hb4).mono ?_
  rintro e w' ⟨⟨str, H, rfl⟩, h2⟩
  refine ⟨?_, h2⟩
  rw [bytes_ext (a := str) (b := ⟨(Tk.spellT t).toArray⟩) H.out]
namespace Tk
theorem joinS_snoc (l : List (List UInt8)) (x : List UInt8) (h : l ≠ []) : joinS (l ++ [x]) = joinS l ++ 32 :: x := by
  induction l with
  | nil => exact absurd rfl h
  | cons a t ih =>
    cases t with
    | nil => simp [joinS]
    | cons b u =>
      have := ih (by simp)
      rw [List.cons_append] at this
      rw [List.cons_append, List.cons_append, joinS, this]
      simp [joinS]
theorem byteCells_app (a b : List UInt8) : byteCells (a ++ b) = byteCells a ++ byteCells b := by simp [byteCells]
theorem byteCells_len (a : List UInt8) : (byteCells a).length = a.length := by simp [byteCells]
theorem strCells_bytes (l : List UInt8) : Lib.strCells ⟨l.toArray⟩ = byteCells l := by
  simp [Lib.strCells, byteCells, ByteArray.toList_eq]
end Tk
theorem info_u8' : (Tryd.prog.info? 5).map (fun i => (i.zero, i.size, i.bytes)) = some (some (.int .u8 0), 1, 1) := by kernel_rfl
theorem convert_own {W : World} {base : Nat} {v : Value} {l : List UInt8} (h : W.ownsRow base 5 1 v l.length (Tk.byteCells l)) :
    (convert 31 9 v).run Tryd.prog W = .ok (.string ⟨l.toArray⟩) W := by
  have hs : strOfNums (l.map fun c => (c.toNat : Int)) = ⟨l.toArray⟩ := by
    have hm : (l.map fun c => (c.toNat : Int)).map (fun n => UInt8.ofNat n.toNat) = l := by
      rw [List.map_map]
      conv => rhs; rw [← List.map_id l]
      refine List.map_congr_left fun c _ => ?_
      simp
    show (⟨((l.map fun c => (c.toNat : Int)).map (fun n => UInt8.ofNat n.toNat)).toArray⟩ : ByteArray) = ⟨l.toArray⟩
    rw [hm]
  rcases h.2 with ⟨rfl, h0⟩ | ⟨g, cap, cur, rfl, -, hg, hn, hm, -⟩
  · have : l = [] := List.length_eq_zero_iff.1 h0
    subst this
    exact run_convert_bytes_nil W 31 5 Tryd.underlying31 Tryd.underlying5 0 0 9 Tryd.underlying9
  · have hc := h.cells (g := g) rfl
    rw [← hs]
    refine run_convert_bytes_arg W 31 5 Tryd.underlying31 Tryd.underlying5 g 0 l.length cap (l.map fun c => (c.toNat : Int)) (by simp) ?_ 9 Tryd.underlying9
    intro i hi
    have := hc i (.int .u8 (l[i].toNat : Int)) (by simp [Tk.byteCells, hi])
    rw [show (⟨g, 0, none⟩ : Addr).add i = ⟨g, 0 + i, none⟩ from by unfold Addr.add; split <;> simp_all] at this
    rw [this]
    simp [List.getD, hi]
set_option maxRecDepth 1000000 in
set_option maxHeartbeats 6400000 in
theorem rtext_any (v : Value) (ts : List Tk.Tok) (w : World) (hR : Reads w v ts.length 4 (Tk.tokCells ts)) (hsm : ∀ t ∈ ts, Tk.smallT t) (h7 : ts.length ≤ 7000) :
    Calls Tryd.prog 19 #[v] w fun e w' => Tk.TextRet (Tk.textR ts) e ∧ ∃ g, w' = more w g := by
  obtain ⟨va, cap, hva⟩ : ∃ va cap, v = .slice va ts.length cap := by
    rcases hR.2 with ⟨h0, a, cap, rfl, -⟩ | ⟨b, off, cap, rfl, -⟩
    · exact ⟨a, cap, by rw [h0]⟩
    · exact ⟨_, cap, rfl⟩
  by_cases h6 : 6000 < ts.length
  · have hT : Tk.textR ts = .error 3 := by unfold Tk.textR; rw [if_pos h6]
    rw [hT]
    have h6' : (6000 : Int) < (ts.length : Int) := by omega
    subst hva
    clear hT hR hsm h7 h6
    go_enter Tryd.func19, Tryd.ntmps19
    go_wp2
    go_ret2
    exact ⟨rfl, more_refl _⟩
  have h6' : (ts.length : Int) ≤ 6000 := by omega
  have h60 : ts.length ≤ 6000 := by omega
  have HSM := Lib.hid hsm
  obtain ⟨i0, hi, hz0, hz1, hz2⟩ := info_parts info_u8'
  have hbv : ∀ k, (hk : k < ts.length) → ∃ b off, va = some ⟨b, off, none⟩ ∧ b < w.heap.size ∧ w.cell? ⟨b, off + k * 4, none⟩ = some (.int .i64 ts[k].1) ∧ w.cell? ⟨b, off + k * 4 + 1, none⟩ = some (.string ⟨ts[k].2.1.toArray⟩) ∧ w.cell? ⟨b, off + k * 4 + 2, none⟩ = some (.int .i64 ts[k].2.2.1) ∧ w.cell? ⟨b, off + k * 4 + 3, none⟩ = some (.int .i64 ts[k].2.2.2) := by
    intro k hk
    subst hva
    rcases hR.2 with ⟨h0, -⟩ | ⟨b, off, cap2, he, -, -, hbl, hc⟩
    · omega
    · simp only [Value.slice.injEq] at he
      obtain ⟨e1, -, -⟩ := he
      have h1 := Tk.tokCells_at ts k hk
      exact ⟨b, off, e1, hbl, hc _ _ h1.1, by have := hc _ _ h1.2.1; rwa [← Nat.add_assoc] at this, by have := hc _ _ h1.2.2.1; rwa [← Nat.add_assoc] at this, by have := hc _ _ h1.2.2.2; rwa [← Nat.add_assoc] at this⟩
  have HBV := Lib.hid hbv
  have hcapl : cap ≤ maxLen := by
    subst hva
    rcases hR.2 with ⟨h0, a, cp, he, hh⟩ | ⟨b, off, cp, he, -, hh, -⟩
    · simp only [Value.slice.injEq] at he; obtain ⟨-, -, rfl⟩ := he; exact hh
    · simp only [Value.slice.injEq] at he; obtain ⟨-, -, rfl⟩ := he; exact hh
  have hcap0 : ts.length ≤ cap := by
    subst hva
    rcases hR.2 with ⟨h0, -⟩ | ⟨b, off, cp, he, hh, -⟩
    · omega
    · simp only [Value.slice.injEq] at he; obtain ⟨-, -, rfl⟩ := he; exact hh
  subst hva
  clear hR hsm hbv h6 h7
  go_enter Tryd.func19, Tryd.ntmps19
  go_wp2
  go_loopw [4] (fun i wr => ∃ (k : Nat), i = .int .i64 k ∧ k ≤ ts.length ∧ Below w.heap.size w wr ∧ Hid (∀ t ∈ ts.take k, Tk.goodT t)) (fun i _ => ts.length - (intOf i).toNat)
  case atStart => exact ⟨0, rfl, by omega, Below.refl _ _, Lib.hid (by simp)⟩
  case round =>
    obtain ⟨k, rfl, hk, hBw, H⟩ := hrel
    have HBB := Lib.hid hBw
    have hsz := hBw.size
    clear hBw
    by_cases hlt : k < ts.length
    · obtain ⟨b, off, hva, hbl, c0, c1, c2, c3⟩ := HBV.out k hlt
      replace c0 := (HBB.out.cell (p := ⟨b, off + k * 4, none⟩) hbl).trans c0
      replace c1 := (HBB.out.cell (p := ⟨b, off + k * 4 + 1, none⟩) hbl).trans c1
      replace c2 := (HBB.out.cell (p := ⟨b, off + k * 4 + 2, none⟩) hbl).trans c2
      replace c3 := (HBB.out.cell (p := ⟨b, off + k * 4 + 3, none⟩) hbl).trans c3
      replace hbl := Nat.lt_of_lt_of_le hbl HBB.out.size
      subst hva
      have hmem : ts[k] ∈ ts := List.getElem_mem hlt
      have hsmk := HSM.out _ hmem
      by_cases hgd : Tk.goodT ts[k]
      · have HSP := Lib.hid (fun W => rGood_is ts[k] true W hsmk (by simpa using hgd))
        have HNX := Lib.hid (show ∀ t ∈ ts.take (k + 1), Tk.goodT t by
          intro t ht
          rw [List.take_succ_eq_append_getElem hlt] at ht
          rcases List.mem_append.1 ht with h | h
          · exact H.out t h
          · simp at h; subst h; exact hgd)
        unfold tokV at HSP
        generalize ts[k] = tk at *
        obtain ⟨kd, tw, tn, ta⟩ := tk
        simp only at c0 c1 c2 c3 HSP
        have hi0 : (0 : Int) ≤ (k : Int) := by omega
        have hi1 : (k : Int) < (ts.length : Int) := by omega
        clear hgd hsmk hmem H
        go_wp2_with (go_at_call 36; (with_reducible refine (HSP.out _).mono ?_); rintro e w2 ⟨rfl, g, rfl⟩)
        refine ⟨⟨k + 1, by go_num, by omega, (by have hBw2 := HBB.out; exact (by repeat' (first | (with_reducible exact Below.refl _ _) | (with_reducible assumption) | (with_reducible refine below_more ?_ ?_ _) | (with_reducible refine below_drewN ?_ _) | (with_reducible refine Below.drew ?_) | (with_reducible refine Below.alloc ?_ ?_ _) | (with_reducible refine Below.setCell ?_ ?_ _) | go_size | (simp [more_size]; done) | (simp [more_size]; omega)))), HNX⟩, by simp [intOf]; omega⟩
      · have HSP := Lib.hid (fun W => rGood_is ts[k] false W hsmk (by simpa using hgd))
        have HV := Lib.hid (show Tk.textR ts = .error 1 by unfold Tk.textR; rw [if_neg (by omega), if_neg (fun h => hgd (h _ hmem))])
        unfold tokV at HSP
        generalize ts[k] = tk at *
        obtain ⟨kd, tw, tn, ta⟩ := tk
        simp only at c0 c1 c2 c3 HSP
        have hi0 : (0 : Int) ≤ (k : Int) := by omega
        have hi1 : (k : Int) < (ts.length : Int) := by omega
        clear hgd hsmk hmem H
        go_wp2_with (go_at_call 36; (with_reducible refine (HSP.out _).mono ?_); rintro e w2 ⟨rfl, g, rfl⟩)
        go_ret2
        exact ⟨by rw [HV.out]; rfl, (by have hBw2 := HBB.out; exact more_of_below (by repeat' (first | (with_reducible exact Below.refl _ _) | (with_reducible assumption) | (with_reducible refine below_more ?_ ?_ _) | (with_reducible refine below_drewN ?_ _) | (with_reducible refine Below.drew ?_) | (with_reducible refine Below.alloc ?_ ?_ _) | (with_reducible refine Below.setCell ?_ ?_ _) | go_size | (simp [more_size]; done) | (simp [more_size]; omega))))⟩
    · have hke : k = ts.length := by omega
      subst hke
      rw [List.take_length] at H
      have HALL := H
      have HV := Lib.hid (show Tk.textR ts = if 16384 < (Tk.joinS (ts.map Tk.spellT)).length then .error 2 else .ok (Tk.joinS (ts.map Tk.spellT)) by unfold Tk.textR; rw [if_neg (by omega), if_pos H.out]; rfl)
      clear hlt H hk
      go_wp2
      go_loopw [5, 6] (fun u i wx => ∃ (k : Nat), i = .int .i64 k ∧ k ≤ ts.length ∧ wx.ownsRow w.heap.size 5 1 u (Tk.joinS ((ts.take k).map Tk.spellT)).length (Tk.byteCells (Tk.joinS ((ts.take k).map Tk.spellT))) ∧ Below w.heap.size w wx) (fun _ i _ => ts.length - (intOf i).toNat)
      case atStart => exact ⟨0, rfl, by omega, World.ownsRow_nil _ _ _ _, HBB.out⟩
      case round =>
        obtain ⟨k, rfl, hk, hown, hBw⟩ := hrel
        have HB2 := Lib.hid hBw
        have hsz2 := hBw.size
        have hjl : (Tk.joinS ((ts.take k).map Tk.spellT)).length ≤ 500000 := by
          have := Tk.joinS_len ((ts.take k).map Tk.spellT) (by
            intro s hs
            obtain ⟨t, ht, rfl⟩ := List.mem_map.1 hs
            have ht2 := List.mem_of_mem_take ht
            exact Tk.spell_len (HSM.out t ht2) (HALL.out t ht2))
          rw [List.length_map, List.length_take] at this
          omega
        by_cases hlt : k < ts.length
        · obtain ⟨b, off, hva, hbl, c0, c1, c2, c3⟩ := HBV.out k hlt
          subst hva
          have hmem : ts[k] ∈ ts := List.getElem_mem hlt
          have hsmk := HSM.out _ hmem
          have hgd := HALL.out _ hmem
          have HSP := Lib.hid (fun W => rOne_at ts[k] W hsmk hgd)
          have hsp : (Tk.spellT ts[k]).length ≤ 66 := Tk.spell_len hsmk hgd
          have HJN := Lib.hid (show Tk.joinS ((ts.take (k + 1)).map Tk.spellT) = if k = 0 then Tk.spellT ts[k] else Tk.joinS ((ts.take k).map Tk.spellT) ++ 32 :: Tk.spellT ts[k] by
            rw [List.take_succ_eq_append_getElem hlt, List.map_append]
            by_cases h0 : k = 0
            · rw [if_pos h0]; subst h0; rfl
            · rw [if_neg h0]
              exact Tk.joinS_snoc _ _ (by
                intro he
                have : ((ts.take k).map Tk.spellT).length = 0 := by rw [he]; rfl
                rw [List.length_map, List.length_take] at this
                omega))
          have hJ0 : k = 0 → Tk.joinS ((ts.take k).map Tk.spellT) = [] := by rintro rfl; rfl
          unfold tokV at HSP
          generalize Tk.joinS ((ts.take k).map Tk.spellT) = J at *
          generalize Tk.spellT ts[k] = sp at *
          generalize ts[k] = tk at *
          obtain ⟨kd, tw, tn, ta⟩ := tk
          simp only at c0 c1 c2 c3 HSP
          obtain ⟨S, hS⟩ : ∃ S : ByteArray, S = ⟨sp.toArray⟩ := ⟨_, rfl⟩
          have hSs : S.size = sp.length := by rw [hS]; show sp.toArray.size = _; simp
          rw [← hS] at HSP
          have HSC := Lib.hid (show Lib.strCells S = Tk.byteCells sp by rw [hS]; exact Tk.strCells_bytes sp)
          clear hS hgd hsmk hmem
          have hi0 : (0 : Int) ≤ (k : Int) := by omega
          have hi1 : (k : Int) < (ts.length : Int) := by omega
          obtain ⟨vb, capb, rfl, hc1, hc2⟩ := owns_form hown
          have HO := Lib.hid hown
          clear hown hBw
          by_cases h0 : k = 0
          · have hJe := hJ0 h0
            subst hJe
            subst h0
            have HJ2 := Lib.hid (HJN.out.trans (if_pos rfl))
            clear HJN hJ0
            replace c0 := (HB2.out.cell (p := ⟨b, off + 0 * 4, none⟩) hbl).trans c0
            replace c1 := (HB2.out.cell (p := ⟨b, off + 0 * 4 + 1, none⟩) hbl).trans c1
            replace c2 := (HB2.out.cell (p := ⟨b, off + 0 * 4 + 2, none⟩) hbl).trans c2
            replace c3 := (HB2.out.cell (p := ⟨b, off + 0 * 4 + 3, none⟩) hbl).trans c3
            replace hbl := Nat.lt_of_lt_of_le hbl HB2.out.size
            simp only [Nat.zero_mul, Nat.add_zero] at c0 c1 c2 c3
            go_wp2_with (first | (go_at_call 37; (with_reducible refine (HSP.out _).mono ?_); rintro e w2 ⟨rfl, g, rfl⟩) | (at_builtin; go_loud (refine Lib.wpList_append_own_string _ rfl _ _ 31 9 rfl w.heap.size 5 i0 Tryd.underlying31 Tryd.underlying9 hi hz0 hz1 hz2 _ _ _ rfl (owns_kept HO.out ?_) S rfl ?_ ?_ ?_ ?_; (focus (exact (by repeat' (first | (with_reducible exact Below.refl _ _) | (with_reducible assumption) | (with_reducible refine below_more ?_ ?_ _) | (with_reducible refine below_drewN ?_ _) | (with_reducible refine Below.drew ?_) | (with_reducible refine Below.alloc ?_ ?_ _) | (with_reducible refine Below.setCell ?_ ?_ _) | go_size | (simp [more_size]; done) | (simp [more_size]; omega))))); (focus (unfold maxLen; simp only [List.length_nil]; omega)); (focus (simp only [List.length_nil]; omega)); (focus (first | (simp [more_size]; omega) | omega)); intro v' w1 hown' hgrow hnn)))
            have hBn : Below w.heap.size w w1 := by
              refine below_grown ?_ ?_ hgrow (owns_rows HO.out)
              · have hBw2 := HB2.out; exact (by repeat' (first | (with_reducible exact Below.refl _ _) | (with_reducible assumption) | (with_reducible refine below_more ?_ ?_ _) | (with_reducible refine below_drewN ?_ _) | (with_reducible refine Below.drew ?_) | (with_reducible refine Below.alloc ?_ ?_ _) | (with_reducible refine Below.setCell ?_ ?_ _) | go_size | (simp [more_size]; done) | (simp [more_size]; omega)))
              · first | (simp [more_size]; omega) | omega
            refine ⟨⟨1, rfl, by omega, ?_, hBn⟩, by simp [intOf]; omega⟩
            have e : Tk.joinS ((ts.take 1).map Tk.spellT) = sp := HJ2.out
            rw [e]
            rw [HSC.out, hSs] at hown'
            simpa [Tk.byteCells] using hown'
          · have h0' : (0 : Int) < (k : Int) := by omega
            have HJ2 := Lib.hid (HJN.out.trans (if_neg h0))
            clear HJN hJ0
            go_wp2_with (at_builtin; refine wpList_append_reads rfl _ _ 31 rfl w.heap.size 5 i0 (.int .u8 0) 1 1 Tryd.underlying31 hi hz0 hz1 hz2 rfl (by decide) _ J.length _ rfl (owns_kept HO.out ?_) _ 1 [.int .u8 32] rfl (reads_one _ _ _ 5 ?_) ?_ ?_ ?_ ?_ ?_; (focus (exact (by repeat' (first | (with_reducible exact Below.refl _ _) | (with_reducible assumption) | (with_reducible refine below_more ?_ ?_ _) | (with_reducible refine below_drewN ?_ _) | (with_reducible refine Below.drew ?_) | (with_reducible refine Below.alloc ?_ ?_ _) | (with_reducible refine Below.setCell ?_ ?_ _) | go_size | (simp [more_size]; done) | (simp [more_size]; omega))))); (focus (simp [more_size]; done)); (focus (intro q hq; simp at hq; subst hq; rfl)); (focus (unfold maxLen; omega)); (focus omega); (focus (first | (simp [more_size]; omega) | omega)))
            intro v' w1 hown' hgrow
            have hB3 : Below w.heap.size w w1 := by
              refine below_grown ?_ ?_ hgrow (owns_rows HO.out)
              · have hBw2 := HB2.out; exact (by repeat' (first | (with_reducible exact Below.refl _ _) | (with_reducible assumption) | (with_reducible refine below_more ?_ ?_ _) | (with_reducible refine below_drewN ?_ _) | (with_reducible refine Below.drew ?_) | (with_reducible refine Below.alloc ?_ ?_ _) | (with_reducible refine Below.setCell ?_ ?_ _) | go_size | (simp [more_size]; done) | (simp [more_size]; omega)))
              · first | (simp [more_size]; omega) | omega
            have HO2 := Lib.hid hown'
            obtain ⟨vb2, capb2, rfl, hc3, hc4⟩ := owns_form hown'
            have hsz3 := hB3.size
            have HB3 := Lib.hid hB3
            clear hgrow hown' hB3
            replace c0 := (HB3.out.cell (p := ⟨b, off + k * 4, none⟩) hbl).trans c0
            replace c1 := (HB3.out.cell (p := ⟨b, off + k * 4 + 1, none⟩) hbl).trans c1
            replace c2 := (HB3.out.cell (p := ⟨b, off + k * 4 + 2, none⟩) hbl).trans c2
            replace c3 := (HB3.out.cell (p := ⟨b, off + k * 4 + 3, none⟩) hbl).trans c3
            replace hbl := Nat.lt_of_lt_of_le hbl HB3.out.size
            go_wp2_with (first | (go_at_call 37; (with_reducible refine (HSP.out _).mono ?_); rintro e w2 ⟨rfl, g, rfl⟩) | (at_builtin; go_loud (refine Lib.wpList_append_own_string _ rfl _ _ 31 9 rfl w.heap.size 5 i0 Tryd.underlying31 Tryd.underlying9 hi hz0 hz1 hz2 _ _ _ rfl (owns_kept HO2.out ?_) S rfl ?_ ?_ ?_ ?_; (focus (exact (by repeat' (first | (with_reducible exact Below.refl _ _) | (with_reducible assumption) | (with_reducible refine below_more ?_ ?_ _) | (with_reducible refine below_drewN ?_ _) | (with_reducible refine Below.drew ?_) | (with_reducible refine Below.alloc ?_ ?_ _) | (with_reducible refine Below.setCell ?_ ?_ _) | go_size | (simp [more_size]; done) | (simp [more_size]; omega))))); (focus (unfold maxLen; omega)); (focus omega); (focus (first | (simp [more_size]; omega) | omega)); intro v3 w3 hown3 hgrow3 hnn)))
            have hBn : Below w.heap.size w w3 := by
              refine below_grown ?_ ?_ hgrow3 (owns_rows HO2.out)
              · have hBw2 := HB3.out; exact (by repeat' (first | (with_reducible exact Below.refl _ _) | (with_reducible assumption) | (with_reducible refine below_more ?_ ?_ _) | (with_reducible refine below_drewN ?_ _) | (with_reducible refine Below.drew ?_) | (with_reducible refine Below.alloc ?_ ?_ _) | (with_reducible refine Below.setCell ?_ ?_ _) | go_size | (simp [more_size]; done) | (simp [more_size]; omega)))
              · first | (simp [more_size]; omega) | omega
            refine ⟨⟨k + 1, by go_num, by omega, ?_, hBn⟩, by simp [intOf]; omega⟩
            have e1 : (J ++ 32 :: sp).length = J.length + 1 + S.size := by simp; omega
            have e2 : Tk.byteCells (J ++ 32 :: sp) = Tk.byteCells J ++ [.int .u8 32] ++ Lib.strCells S := by rw [HSC.out]; simp [Tk.byteCells]
            rw [HJ2.out, e1, e2]
            exact hown3
        · have hke : k = ts.length := by omega
          subst hke
          rw [List.take_length] at hjl hown
          have hcv := Lib.hid (convert_own hown)
          obtain ⟨vb, capb, rfl, hc1, hc2⟩ := owns_form hown
          generalize Tk.joinS (ts.map Tk.spellT) = J at *
          clear hown hBw
          by_cases hbig : 16384 < J.length
          · have hb1 : (16384 : Int) < (J.length : Int) := by omega
            have HV2 := Lib.hid (HV.out.trans (if_pos hbig))
            clear HV hbig hlt
            go_wp2
            go_ret2
            exact ⟨by rw [HV2.out]; rfl, (by have hBw2 := HB2.out; exact more_of_below (by repeat' (first | (with_reducible exact Below.refl _ _) | (with_reducible assumption) | (with_reducible refine below_more ?_ ?_ _) | (with_reducible refine below_drewN ?_ _) | (with_reducible refine Below.drew ?_) | (with_reducible refine Below.alloc ?_ ?_ _) | (with_reducible refine Below.setCell ?_ ?_ _) | go_size | (simp [more_size]; done) | (simp [more_size]; omega))))⟩
          · have hb1 : (J.length : Int) ≤ 16384 := by omega
            have HV2 := Lib.hid (HV.out.trans (if_neg hbig))
            have hcv2 := hcv.out
            clear HV hbig hlt hcv
            go_wp2
            go_ret2
            exact ⟨by rw [HV2.out]; rfl, (by have hBw2 := HB2.out; exact more_of_below (by repeat' (first | (with_reducible exact Below.refl _ _) | (with_reducible assumption) | (with_reducible refine below_more ?_ ?_ _) | (with_reducible refine below_drewN ?_ _) | (with_reducible refine Below.drew ?_) | (with_reducible refine Below.alloc ?_ ?_ _) | (with_reducible refine Below.setCell ?_ ?_ _) | go_size | (simp [more_size]; done) | (simp [more_size]; omega))))⟩
end Go.Proofs.YtcoakhahjdnlfaaDoor
