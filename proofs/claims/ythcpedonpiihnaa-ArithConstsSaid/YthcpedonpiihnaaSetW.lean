/- The walks of consts.Set and of the document's Set: the same plain function of the pairs. Conditions: there are at most 2000 pairs. -/
import Derived.Test.YthcpedonpiihnaaSetP
import Derived.Test.YthcpedonpiihnaaReadW
import Derived.Test.YthcpedonpiihnaaRefQ
import Derived.Test.YthcpedonpiihnaaConW
namespace Go.Proofs.Ythcpedonpiihnaa
set_option linter.unusedSimpArgs false
set_option linter.unusedVariables false
open Go.RowKit
/-- the cells of pairs -/
def pairCells (ps : List (Int × Int)) : List Value := ps.flatMap fun p => [.int .i64 p.1, .int .i64 p.2]
theorem pairCells_len (ps : List (Int × Int)) : (pairCells ps).length = ps.length * 2 := by
  induction ps with
  | nil => rfl
  | cons p t ih => simp [pairCells] at ih ⊢; omega
theorem pairCells_at (ps : List (Int × Int)) (k : Nat) (h : k < ps.length) : (pairCells ps)[k * 2]? = some (.int .i64 ps[k].1) ∧ (pairCells ps)[k * 2 + 1]? = some (.int .i64 ps[k].2) := by
  induction ps generalizing k with
  | nil => simp at h
  | cons p t ih =>
    cases k with
    | zero => simp [pairCells]
    | succ k =>
      have := ih k (by simpa using h)
      simp only [pairCells, List.flatMap_cons, List.getElem_cons_succ] at this ⊢
      rw [show (k + 1) * 2 = k * 2 + 2 from by omega]
      simpa using this
theorem setL_step (ps : List (Int × Int)) (k : Nat) (h : k < ps.length) (w : Int) (hb : Sp.bad ps[k].1 ps[k].2 = false) :
    Sp.setL (ps.drop k) w = Sp.setL (ps.drop (k + 1)) (Sp.fill ps[k].1.toNat (ps[k].2 + 1 - ps[k].1).toNat w) := by
  rw [List.drop_eq_getElem_cons h]
  simp only [Sp.setL, hb, Bool.false_eq_true, if_false]
theorem setL_bad (ps : List (Int × Int)) (k : Nat) (h : k < ps.length) (w : Int) (hb : Sp.bad ps[k].1 ps[k].2 = true) :
    Sp.setL (ps.drop k) w = (0, 0, 91) := by
  rw [List.drop_eq_getElem_cons h]
  simp only [Sp.setL, hb, if_true]
set_option maxRecDepth 100000 in
set_option maxHeartbeats 1600000 in
theorem Set_any (v : Value) (ps : List (Int × Int)) (w : World) (hR : Reads w v ps.length 2 (pairCells ps)) (hn : ps.length ≤ 2000) :
    Calls Try.prog 21 #[v] w fun e w' => e = .returned (Sp.R (Sp.setL ps 0)) ∧ ∃ g, w' = more w g := by
  rcases hR.2 with ⟨h0, a, cap, rfl, -⟩ | ⟨b, off, cap, rfl, hnc, hcm, hbl, hc⟩
  · have hps : ps = [] := List.eq_nil_of_length_eq_zero h0
    subst hps
    clear hn hR h0
    go_enter Try.func21, Try.ntmps21
    go_wp2_with fail
    go_loop [4, 10] (fun s i => s = .int .u32 0 ∧ i = .int .i64 0) (fun _ i => 0)
    case atStart => exact ⟨rfl, rfl⟩
    case round =>
      obtain ⟨rfl, rfl⟩ := hrel
      go_wp2_with (first | (go_at_call 63; refine (cset_any _ _ (by omega) (by omega)).mono ?_; rintro e w' ⟨rfl, g, rfl⟩))
      go_returns
      exact ⟨rfl, more_of_below (by repeat' (first | (with_reducible exact Below.refl _ _) | (with_reducible assumption) | (with_reducible refine below_more ?_ ?_ _) | (with_reducible refine below_drewN ?_ _) | (with_reducible refine Below.drew ?_) | (with_reducible refine Below.alloc ?_ ?_ _) | (with_reducible refine Below.setCell ?_ ?_ _) | go_size | (simp [more_size]; done) | (simp [more_size]; omega)))⟩
  · clear hR
    have hl64 : cap ≤ 9223372036854775807 := by unfold maxLen at hcm; omega
    have hcell : ∀ k, (h : k < ps.length) → w.cell? ⟨b, off + k * 2, none⟩ = some (.int .i64 ps[k].1) ∧ w.cell? ⟨b, off + k * 2 + 1, none⟩ = some (.int .i64 ps[k].2) := fun k h =>
      ⟨hc _ _ (pairCells_at ps k h).1, by have := hc _ _ (pairCells_at ps k h).2; rwa [← Nat.add_assoc] at this⟩
    have HC := Lib.hid hcell
    clear hc hcell
    have hbl1 : b < w.heap.size + 1 := by omega
    go_enter Try.func21, Try.ntmps21
    go_wp2_with fail
    obtain ⟨w0, hw0⟩ : ∃ w0 : World, w.alloc (.cells #[.int .i64 0, .int .i64 0, .string ⟨#[]⟩] 23) = w0 := ⟨_, rfl⟩
    go_loopw [4, 10] (fun s i wr => ∃ (k : Nat) (W : Int) (g : Came), k ≤ ps.length ∧ i = .int .i64 k ∧ s = .int .u32 W ∧ (0 ≤ W ∧ W < 4294967296) ∧ Hid (Sp.setL (ps.drop k) W = Sp.setL ps 0) ∧ wr = more (w.alloc (.cells #[.int .i64 0, .int .i64 0, .string ⟨#[]⟩] 23)) g) (fun _ i _ => ps.length - (intOf i).toNat)
    case atStart =>
      obtain ⟨g, hg⟩ := more_refl (w.alloc (.cells #[.int .i64 0, .int .i64 0, .string ⟨#[]⟩] 23))
      exact ⟨0, 0, g, by omega, rfl, rfl, by omega, Lib.hid rfl, hg⟩
    case round =>
      obtain ⟨k, W, g, hk, rfl, rfl, ⟨hW0, hW1⟩, HS, rfl⟩ := hrel
      clear hw0
      by_cases hlt : k < ps.length
      · obtain ⟨c0, c1⟩ := HC.out k hlt
        have HB := Lib.hid (setL_bad ps k hlt W)
        have HT := Lib.hid (setL_step ps k hlt W)
        generalize hp1 : ps[k].1 = x at *
        generalize hp2 : ps[k].2 = y at *
        clear hp1 hp2
        by_cases hbad : Sp.bad x y = true
        · have HB2 := Lib.hid (HB.out hbad)
          have hbad' := hbad
          simp only [Sp.bad, Bool.or_eq_true, decide_eq_true_eq] at hbad'
          clear hbad HB
          by_cases hmin : min x y < 0
          · clear hbad'
            go_wp2_with fail
            go_returns
            exact ⟨by rw [← HS.out, HB2.out], more_of_below (by repeat' (first | (with_reducible exact Below.refl _ _) | (with_reducible assumption) | (with_reducible refine below_more ?_ ?_ _) | (with_reducible refine below_drewN ?_ _) | (with_reducible refine Below.drew ?_) | (with_reducible refine Below.alloc ?_ ?_ _) | (with_reducible refine Below.setCell ?_ ?_ _) | go_size | (simp [more_size]; done) | (simp [more_size]; omega)))⟩
          · have hmax : 31 < max x y := by omega
            clear hbad'
            go_wp2_with fail
            go_returns
            exact ⟨by rw [← HS.out, HB2.out], more_of_below (by repeat' (first | (with_reducible exact Below.refl _ _) | (with_reducible assumption) | (with_reducible refine below_more ?_ ?_ _) | (with_reducible refine below_drewN ?_ _) | (with_reducible refine Below.drew ?_) | (with_reducible refine Below.alloc ?_ ?_ _) | (with_reducible refine Below.setCell ?_ ?_ _) | go_size | (simp [more_size]; done) | (simp [more_size]; omega)))⟩
        · have hbad' : Sp.bad x y = false := by simpa using hbad
          have HT2 := Lib.hid (HT.out hbad')
          simp only [Sp.bad, Bool.or_eq_false_iff, decide_eq_false_iff_not] at hbad'
          obtain ⟨hmin, hmax⟩ := hbad'
          clear hbad HB HT
          obtain ⟨x', rfl⟩ := Int.eq_ofNat_of_zero_le (show 0 ≤ x by omega)
          have hx31 : x' ≤ 31 := by omega
          have hy0 : 0 ≤ y := by omega
          have hy31 : y ≤ 31 := by omega
          go_wp2_with fail
          go_loop [4, 7] (fun s n => ∃ j : Nat, (x' : Int) + j ≤ max (y + 1) x' ∧ n = .int .i64 ((x' + j : Nat) : Int) ∧ s = .int .u32 (Sp.fill x' j W)) (fun _ n => 32 - (intOf n).toNat)
          case atStart => exact ⟨0, by omega, rfl, rfl⟩
          case round =>
            obtain ⟨j, hj, rfl, rfl⟩ := hrel
            by_cases hle : ((x' + j : Nat) : Int) ≤ y
            · obtain ⟨f0, f1⟩ := Sp.fill_bd x' j W (by omega) hW0 hW1
              have hor := or_put (Sp.fill x' j W) (x' + j) (by omega) f0 f1
              have HF := Lib.hid (show Sp.put (Sp.fill x' j W) ((x' + j : Nat) : Int) 1 1 = Sp.fill x' (j + 1) W from rfl)
              have h32 : x' + j < 32 := by omega
              have hpw := Sp.pow_bd (x' + j) (by omega)
              have hpw2 := Sp.pow_lt (x' + j) h32
              generalize hkk : x' + j = kk at *
              go_wp2
              go_round
              case rel => exact ⟨j + 1, by omega, by rw [← hkk]; go_num, by rw [HF.out]⟩
              case measure => simp [intOf]; omega
            · have hcnt : (y + 1 - (x' : Int)).toNat = j := by omega
              have HCN := Lib.hid hcnt
              clear hcnt
              go_wp2_with fail
              go_roundw
              case rel => exact ⟨k + 1, _, _, by omega, by go_num, rfl, Sp.fill_bd x' j W (by omega) hW0 hW1, Lib.hid (by rw [← HS.out, HT2.out, Int.toNat_natCast, HCN.out]), more_alloc _ _ _⟩
              case measure => simp [intOf]; omega
      · have hke : k = ps.length := by omega
        subst hke
        have HF := Lib.hid (show Sp.setL (ps.drop ps.length) W = (4, W, 0) by rw [List.drop_length]; rfl)
        go_wp2_with (first | (go_at_call 63; refine (cset_any _ _ (by assumption) (by assumption)).mono ?_; rintro e w' ⟨rfl, g, rfl⟩))
        go_returns
        exact ⟨by rw [← HS.out, HF.out], more_of_below (by repeat' (first | (with_reducible exact Below.refl _ _) | (with_reducible assumption) | (with_reducible refine below_more ?_ ?_ _) | (with_reducible refine below_drewN ?_ _) | (with_reducible refine Below.drew ?_) | (with_reducible refine Below.alloc ?_ ?_ _) | (with_reducible refine Below.setCell ?_ ?_ _) | go_size | (simp [more_size]; done) | (simp [more_size]; omega)))⟩
end Go.Proofs.Ythcpedonpiihnaa
