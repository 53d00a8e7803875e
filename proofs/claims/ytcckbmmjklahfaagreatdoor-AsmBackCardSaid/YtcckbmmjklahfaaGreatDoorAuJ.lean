/- The walk of asm.Lines: words, line by line. Conditions: the library's variables are as they were laid; the list reads as a list of words, and is not too long. -/
import Derived.Test.YtcckbmmjklahfaaGreatDoorAuB
import Derived.Test.YtcckbmmjklahfaaGreatDoorAuH
import Derived.Test.YtcckbmmjklahfaaGreatDoorAsK
namespace Go.Proofs.YtcckbmmjklahfaaGreatDoor
set_option linter.all false
open Go.RowKit
namespace As
theorem isb_below {T e : TypeId} {B b : Nat} {bs : List Value} {w w' : World} (h : Lib.IsBuilder T e B b bs w) (hb : Below w.heap.size w w') : Lib.IsBuilder T e B b bs w' := by
  have : ∀ p, Lib.BuilderAt T e B b p bs w → Lib.BuilderAt T e B b p bs w' := fun p h => by
    obtain ⟨h1, v, h2, h3, h4⟩ := h
    exact ⟨h1, v, (hb.block _ (lt_of h2)).trans h2, owns_kept' h3 hb, h4⟩
  rcases h with h | h
  · exact .inl (this _ h)
  · exact .inr (this _ h)
theorem isb_at {T e : TypeId} {B b : Nat} {bs : List Value} {w : World} (h : Lib.BuilderAt T e B b (.pointer (some ⟨b, 0, none⟩)) bs w) : Lib.IsBuilder T e B b bs w := Or.inr h
/-- what holds between two lines -/
structure LSt (w0 wr : World) (bb : Nat) (xs : List Int) (k : Nat) : Prop where
  bd : Lib.IsBuilder 59 5 bb bb (Lib.byteCells (linesF (xs.take k))) wr
  bel : Below bb w0 wr
  sz : bb ≤ wr.heap.size
theorem cells_len (l : List Int) (k : Nat) : (Lib.byteCells (linesF (l.take k))).length ≤ 61 * k := by
  have := linesF_len (l.take k)
  have h2 : (l.take k).length ≤ k := by simp; omega
  simp [Lib.byteCells]; omega
theorem cells_next (l : List Int) (k : Nat) (h : k < l.length) (s : ByteArray) (hs : s.data.toList = lineX l[k]) : Lib.byteCells (linesF (l.take (k + 1))) = Lib.byteCells (linesF (l.take k)) ++ Lib.strCells s ++ [.int .u8 10] := by
  rw [List.take_add_one, List.getElem?_eq_getElem h]
  simp only [Option.toList_some, linesF_snoc]
  simp [Lib.byteCells, Lib.strCells, hs]
theorem strX_len (s : ByteArray) (z : Int) (hs : s.data.toList = lineX z) : s.size ≤ 60 := by
  have := lineX_len z
  rw [← hs] at this
  simpa using this
end As
theorem bstring_any (B b : Nat) (l : List UInt8) (w : World) (h : Lib.IsBuilder 59 5 B b (Lib.byteCells l) w) (hBw : B ≤ w.heap.size) :
    Calls Tryz.prog 31 #[.pointer (some ⟨b, 0, none⟩)] w fun e w' => e = .returned (.string ⟨l.toArray⟩) ∧ Below B w w' := Tryz.Builder_String_any B b l w h hBw
set_option maxRecDepth 100000 in
set_option maxHeartbeats 6400000 in
theorem Lines_cells (xs : List Int) (n : Nat) (p : Option Addr) (c : Nat) (w : World) (hn : xs.length = n) (hmax : (n : Int) ≤ 100000) (hc : (n : Int) ≤ (c : Int)) (hg : Ga w)
    (HX : Hid (∀ k (h : k < xs.length), ∃ b off, p = some ⟨b, off, none⟩ ∧ b < w.heap.size ∧ w.cell? ⟨b, off + k, none⟩ = some (.int .u32 xs[k]))) (HB : Hid (∀ x ∈ xs, 0 ≤ x ∧ x < 4294967296)) :
    Calls Tryz.prog 11 #[.slice p n c] w fun e w' => e = .returned (.string ⟨(As.linesF xs).toArray⟩) ∧ ∃ g, w' = more w g := by
  have HG := Lib.hid hg
  have HN := Lib.hid hn
  clear hg hn
  go_enter Tryz.func11, Tryz.ntmps11
  go_wp2_with (go_at_call 15; (with_reducible refine (named_any _ HG.out).mono ?_); rintro e w2 ⟨⟨bN, b1, b2, vn, vs, rfl, hN⟩, g, rfl⟩; replace hN := Lib.hid hN)
  generalize hW : World.alloc _ _ = W
  obtain ⟨W0, hW0⟩ : ∃ W0, W0 = more w g := ⟨_, rfl⟩
  have hs0 : w.heap.size ≤ W0.heap.size := by rw [hW0]; simp [more_size]
  have hb0 : w.heap.size + g.o.size = W0.heap.size := by rw [hW0]; simp [more_size]
  have HS := Lib.hid (show As.LSt W0 W W0.heap.size xs 0 from ⟨by
    rw [← hW, hW0]
    exact Lib.fresh_isBuilder _ _ _, by rw [← hW, hW0]; exact (Below.refl _ _).alloc (Nat.le_refl _) _, by rw [← hW, hW0]; simp [As.sz]⟩)
  have HW0 := Lib.hid (show Below w.heap.size w W0 from hW0 ▸ below_more (Below.refl _ _) (Nat.le_refl _) _)
  rw [← hW0] at hN
  rw [hb0]
  clear hW hW0 hb0
  obtain ⟨bb, hbb⟩ : ∃ bb, bb = W0.heap.size := ⟨_, rfl⟩
  rw [← hbb] at HS hs0 ⊢
  replace hbb := Lib.hid hbb
  go_loopw [12] (fun i wr => ∃ k : Nat, k ≤ n ∧ i = .int .i64 k ∧ Hid (As.LSt W0 wr bb xs k)) (fun i _ => n - (intOf i).toNat)
  case atStart => exact ⟨0, by omega, rfl, HS⟩
  case round =>
    obtain ⟨k, hk, rfl, H⟩ := hrel
    clear HS
    have hsz := H.out.sz
    have HBr := Lib.hid (show Below W0.heap.size W0 wr from hbb.out ▸ H.out.bel)
    have HGr := Lib.hid ((HG.out.below HW0.out).below HBr.out)
    have HNr := Lib.hid (hN.out.below HBr.out)
    by_cases hlt : k < n
    · have hk1 : k < xs.length := by rw [HN.out]; exact hlt
      obtain ⟨b, off, rfl, hb, hcell⟩ := HX.out k hk1
      have hcell2 : wr.cell? ⟨b, off + k, none⟩ = some (.int .u32 xs[k]) := by
        rw [← hcell, HBr.out.cell (p := ⟨b, off + k, none⟩) (Nat.lt_of_lt_of_le hb (Nat.le_trans hs0 (Nat.le_of_eq hbb.out))), HW0.out.cell (p := ⟨b, off + k, none⟩) hb]
      have hx := HB.out _ (List.getElem_mem hk1)
      have hL1 := As.cells_len xs k
      have HNx := Lib.hid (fun s hs => As.cells_next xs k hk1 s hs)
      have HBd := Lib.hid H.out.bd
      have HLn := fun u hg hN => line_any xs[k] hx.1 hx.2 u hg (base := w.heap.size) (bN := bN) (b1 := b1) (b2 := b2) (vn := vn) (vs := vs) hN
      have HRw := Lib.hid (fun u hg => raw_any xs[k] hx.1 hx.2 u hg)
      clear hcell
      generalize xs[k] = x at *
      obtain ⟨L, hL⟩ : ∃ L, L = Lib.byteCells (As.linesF (xs.take k)) := ⟨_, rfl⟩
      rw [← hL] at HBd hL1 HNx
      clear hL
      have hL2 : (L.length : Int) ≤ 6100000 := by omega
      clear hL1 hx
      cases hl : As.lineF x with
      | none =>
        have HL := Lib.hid (show ∀ u, Ga u → As.Nm u w.heap.size bN b1 b2 vn vs As.tab → Calls Tryz.prog 27 #[.pointer (some ⟨bN, 0, none⟩), .int .u32 x] u fun e w' => e = .returned (.tuple #[.string ⟨#[]⟩, .int .i64 20]) ∧ ∃ g, w' = more u g from fun u hg hN => (HLn u hg hN).mono fun e w' ⟨⟨t, c, he, h⟩, hw⟩ => ⟨by
          rcases h with ⟨_, ht, hc⟩ | ⟨h, _⟩
          · rw [he, ht, hc]
          · rw [hl] at h; exact (by cases h), hw⟩)
        obtain ⟨D, hD⟩ : ∃ D : ByteArray, D = ⟨(35 :: As.hex8 x).toArray⟩ := ⟨_, rfl⟩
        have hDx : D.data.toList = As.lineX x := by rw [hD]; unfold As.lineX; rw [hl]; rfl
        have hD60 := As.strX_len D x hDx
        have HNy := Lib.hid (HNx.out D hDx)
        rw [← hD] at HRw
        clear HLn hl hD hDx HNx
        go_wp2_with (first | (go_at_call 27; (with_reducible refine (HL.out _ HGr.out HNr.out).mono ?_); rintro e w3 ⟨rfl, g3, rfl⟩) | (go_at_call 28; (with_reducible refine (HRw.out _ (HGr.out.more _)).mono ?_); rintro e w4 ⟨rfl, g4, rfl⟩) | (go_at_call 29; (with_reducible refine (wstring_any bb bb _ _ _ (As.isb_below HBd.out (by repeat' (first | (with_reducible exact Below.refl _ _) | (with_reducible assumption) | (with_reducible refine below_more ?_ ?_ _) | (with_reducible refine below_drewN ?_ _) | (with_reducible refine Below.drew ?_) | (with_reducible refine Below.alloc ?_ ?_ _) | (with_reducible refine Below.setCell ?_ ?_ _) | go_size | (simp [more_size]; done) | (simp [more_size]; omega)))) ?_ ?_).mono ?_); (focus (omega)); (focus (simp [more_size]; omega)); rintro e w5 ⟨rfl, hB5, hb5⟩; have hs5 := hb5.size; simp only [more_size] at hs5; replace hB5 := Lib.hid hB5; replace hb5 := Lib.hid hb5) | (go_at_call 30; go_loud ((with_reducible refine (wbyte_any bb bb _ 10 _ (As.isb_at hB5.out) ?_ ?_).mono ?_); (focus (simp [Lib.strCells_length]; omega)); (focus (omega)); rintro e w6 ⟨rfl, hB6, hb6⟩; have hs6 := hb6.size; replace hB6 := Lib.hid hB6; replace hb6 := Lib.hid hb6)))
        go_roundw
        case rel => exact ⟨k + 1, by omega, by go_num, Lib.hid ⟨by rw [HNy.out]; exact As.isb_at hB6.out, H.out.bel.trans ((below_more (Below.refl _ _) hsz _).trans (hb5.out.trans hb6.out)), by omega⟩⟩
        case measure => simp [intOf]; omega
      | some l =>
        have HL := Lib.hid (show ∀ u, Ga u → As.Nm u w.heap.size bN b1 b2 vn vs As.tab → Calls Tryz.prog 27 #[.pointer (some ⟨bN, 0, none⟩), .int .u32 x] u fun e w' => e = .returned (.tuple #[.string ⟨l.toArray⟩, .int .i64 0]) ∧ ∃ g, w' = more u g from fun u hg hN => (HLn u hg hN).mono fun e w' ⟨⟨t, c, he, h⟩, hw⟩ => ⟨by
          rcases h with ⟨h, _⟩ | ⟨h, hc⟩
          · rw [hl] at h; cases h
          · rw [hl, Option.some.injEq] at h
            have : t = ⟨l.toArray⟩ := ByteArray.ext (Array.ext' (by rw [h]))
            rw [he, this, hc], hw⟩)
        obtain ⟨D, hD⟩ : ∃ D : ByteArray, D = ⟨l.toArray⟩ := ⟨_, rfl⟩
        have hDx : D.data.toList = As.lineX x := by rw [hD]; unfold As.lineX; rw [hl]; rfl
        have hD60 := As.strX_len D x hDx
        have HNy := Lib.hid (HNx.out D hDx)
        rw [← hD] at HL
        clear HLn hl hD hDx HNx HRw
        go_wp2_with (first | (go_at_call 27; (with_reducible refine (HL.out _ HGr.out HNr.out).mono ?_); rintro e w3 ⟨rfl, g3, rfl⟩) | (go_at_call 29; (with_reducible refine (wstring_any bb bb _ _ _ (As.isb_below HBd.out (by repeat' (first | (with_reducible exact Below.refl _ _) | (with_reducible assumption) | (with_reducible refine below_more ?_ ?_ _) | (with_reducible refine below_drewN ?_ _) | (with_reducible refine Below.drew ?_) | (with_reducible refine Below.alloc ?_ ?_ _) | (with_reducible refine Below.setCell ?_ ?_ _) | go_size | (simp [more_size]; done) | (simp [more_size]; omega)))) ?_ ?_).mono ?_); (focus (omega)); (focus (simp [more_size]; omega)); rintro e w5 ⟨rfl, hB5, hb5⟩; have hs5 := hb5.size; simp only [more_size] at hs5; replace hB5 := Lib.hid hB5; replace hb5 := Lib.hid hb5) | (go_at_call 30; go_loud ((with_reducible refine (wbyte_any bb bb _ 10 _ (As.isb_at hB5.out) ?_ ?_).mono ?_); (focus (simp [Lib.strCells_length]; omega)); (focus (omega)); rintro e w6 ⟨rfl, hB6, hb6⟩; have hs6 := hb6.size; replace hB6 := Lib.hid hB6; replace hb6 := Lib.hid hb6)))
        go_roundw
        case rel => exact ⟨k + 1, by omega, by go_num, Lib.hid ⟨by rw [HNy.out]; exact As.isb_at hB6.out, H.out.bel.trans ((below_more (Below.refl _ _) hsz _).trans (hb5.out.trans hb6.out)), by omega⟩⟩
        case measure => simp [intOf]; omega
    · have hkn : k = n := by omega
      subst hkn
      have HBd := Lib.hid (show Lib.IsBuilder 59 5 bb bb (Lib.byteCells (As.linesF xs)) wr by have := H.out.bd; rw [List.take_of_length_le (Nat.le_of_eq HN.out)] at this; exact this)
      have HSt := Lib.hid (fun (u : World) hB hs => bstring_any bb bb (As.linesF xs) u hB hs)
      obtain ⟨R, hR⟩ : ∃ R, R = As.linesF xs := ⟨_, rfl⟩
      rw [← hR] at HBd HSt
      have HRe := Lib.hid hR
      clear hR
      go_wp2_with (go_at_call 31; (with_reducible refine (HSt.out _ HBd.out hsz).mono ?_); rintro e w5 ⟨rfl, hb5⟩; replace hb5 := Lib.hid hb5)
      go_ret
      exact ⟨by rw [← HRe.out]; rfl, more_of_below (HW0.out.trans ((HBr.out.trans (hbb.out ▸ hb5.out)).mono (Nat.le_trans hs0 (Nat.le_of_eq hbb.out))))⟩
theorem Lines_any (xs : List Int) (v : Value) (w : World) (hmax : xs.length ≤ 100000) (hg : Ga w) (hR : Reads w v xs.length 1 (As.wcells xs)) (hx : ∀ x ∈ xs, 0 ≤ x ∧ x < 4294967296) :
    Calls Tryz.prog 11 #[v] w fun e w' => e = .returned (.string ⟨(As.linesF xs).toArray⟩) ∧ ∃ g, w' = more w g := by
  rcases hR.2 with ⟨h0, b, c, rfl, _⟩ | ⟨b, off, c, rfl, hc, _, hb, hcell⟩
  · have : xs = [] := List.eq_nil_of_length_eq_zero h0
    subst this
    exact Lines_cells [] 0 b c w rfl (by omega) (by omega) hg (Lib.hid fun k h => by simp at h) (Lib.hid hx)
  · exact Lines_cells xs xs.length _ c w rfl (by omega) (by omega) hg (Lib.hid fun k h => ⟨b, off, rfl, hb, hcell k _ (As.wcells_at xs k h)⟩) (Lib.hid hx)
end Go.Proofs.YtcckbmmjklahfaaGreatDoor
