/- The walk of consts.Call. Conditions: texts are shorter than a text may be; there are at most 100 values. -/
import Derived.Test.YthcpedonpiihnaaCallW
import Derived.Test.YthcpedonpiihnaaLargeW
import Derived.Deep.RegionHeld3
namespace Go.Proofs.Ythcpedonpiihnaa
set_option linter.all false
open Go.RowKit
namespace Sp
def goodV (v : Int × Int × ByteArray) : Bool := good v.1 v.2.1 v.2.2.data.toList
def callsF (name : List UInt8) (vs : List (Int × Int × ByteArray)) : Int × Int × Int :=
  if vs.all goodV = true then
    match vs with
    | [v] => callF name v.1 v.2.1 v.2.2.data.toList
    | [a, b] => if (a.1 == 1 && b.1 == 1) = true then shiftF name (a.2.1 % 4294967296) (b.2.1 % 4294967296) else (0, 0, 120)
    | _ => (0, 0, 120)
  else (0, 0, 120)
end Sp
def VaBd (v : Va) : Prop := -9223372036854775808 ≤ v.2.1 ∧ v.2.1 < 9223372036854775808 ∧ v.2.2.size < 4294967281
theorem ccall_any (name : ByteArray) (f n : Int) (t : ByteArray) (w : World) (hg : Sp.good f n t.data.toList = true) :
    Calls Try.prog 93 #[.string name, .agg #[.int .i64 f, .int .i64 n, .string t]] w fun e w' => e = .returned (Sp.R (Sp.callF name.toList f n t.data.toList)) ∧ ∃ g, w' = more w g := by
  by_cases h1 : f = 1
  · subst h1
    have ht : t = ⟨#[]⟩ := bytes_ext (Sp.good_text hg (by decide))
    subst ht
    rw [callF_plain _ (by decide)]
    exact call_int name n w (Sp.good_1 hg)
  · obtain ⟨f', n', t', hc⟩ : ∃ (f' n' : Int) (t' : ByteArray), Sp.charF f n t.data.toList = (f', n', t'.data.toList) :=
      ⟨(Sp.charF f n t.data.toList).1, (Sp.charF f n t.data.toList).2.1, ⟨(Sp.charF f n t.data.toList).2.2.toArray⟩, rfl⟩
    have gc := Sp.charF_good hg
    rw [hc] at gc
    have hf' : f' ≠ 1 := by
      intro e
      unfold Sp.charF at hc
      split at hc
      · split at hc
        · simp at hc; omega
        · simp at hc; omega
      · simp at hc; omega
    have hs : Sp.callF name.toList f n t.data.toList = if (name.toList == [79, 82, 68]) = true then Sp.callC name.toList f' n' else (0, 0, 120) := by
      unfold Sp.callF
      rw [hc]
      split
      · rfl
      · rename_i h
        have h' : (name.toList == [79, 82, 68]) = false := by simpa using h
        have h1' : (f == 1) = false := by simpa using h1
        simp only [Sp.callC, h', h1', Bool.and_false, Bool.false_and, Bool.false_eq_true, if_false]
    rw [hs]
    refine call_text name f n f' n' t t' w (by simpa using h1) hc ?_ (fun e => by subst e; exact Sp.good_4 gc)
    have := Sp.good_form gc
    omega
set_option maxRecDepth 100000 in
set_option maxHeartbeats 3200000 in
theorem Call_any (name : ByteArray) (v : Value) (vs : List Va) (w : World) (hR : Reads w v vs.length 3 (valCells vs)) (hn : vs.length ≤ 100) (hb : ∀ x ∈ vs, VaBd x) :
    Calls Try.prog 44 #[.string name, v] w fun e w' => e = .returned (Sp.R (Sp.callsF name.toList vs)) ∧ ∃ g, w' = more w g := by
  rcases hR.2 with ⟨h0, a, cap, rfl, -⟩ | ⟨b, off, cap, rfl, hnc, hcm, hbl, hc⟩
  · have hps : vs = [] := List.eq_nil_of_length_eq_zero h0
    subst hps
    clear hn hR h0 hb
    go_enter Try.func44, Try.ntmps44
    go_wp2_with fail
    go_loop [10] (fun i => i = .int .i64 0) (fun i => 0)
    case atStart => rfl
    case round =>
      subst hrel
      go_wp2_with fail
      go_returns
      exact ⟨rfl, more_of_below (by repeat' (first | (with_reducible exact Below.refl _ _) | (with_reducible assumption) | (with_reducible refine below_more ?_ ?_ _) | (with_reducible refine below_drewN ?_ _) | (with_reducible refine Below.drew ?_) | (with_reducible refine Below.alloc ?_ ?_ _) | (with_reducible refine Below.setCell ?_ ?_ _) | go_size | (simp [more_size]; done) | (simp [more_size]; omega)))⟩
  · clear hR
    have hl64 : cap ≤ 9223372036854775807 := by unfold maxLen at hcm; omega
    have hcell : ∀ k, (h : k < vs.length) → w.cell? ⟨b, off + k * 3, none⟩ = some (.int .i64 vs[k].1) ∧ w.cell? ⟨b, off + k * 3 + 1, none⟩ = some (.int .i64 vs[k].2.1) ∧ w.cell? ⟨b, off + k * 3 + 2, none⟩ = some (.string vs[k].2.2) := fun k h =>
      ⟨hc _ _ (valCells_at vs k h).1, by have := hc _ _ (valCells_at vs k h).2.1; rwa [← Nat.add_assoc] at this, by have := hc _ _ (valCells_at vs k h).2.2; rwa [← Nat.add_assoc] at this⟩
    have HC := Lib.hid hcell
    clear hc hcell
    have hbl1 : b < w.heap.size + 1 := by omega
    generalize hFF : Sp.callsF name.toList vs = res
    have HFF := Lib.hid hFF
    clear hFF
    go_enter Try.func44, Try.ntmps44
    go_wp2_with fail
    go_loopw [10] (fun i wr => ∃ (k : Nat) (g : Came), k ≤ vs.length ∧ i = .int .i64 k ∧ Hid (∀ j, (h : j < vs.length) → j < k → Sp.goodV vs[j] = true) ∧ wr = more (w.alloc (.cells #[.int .i64 0, .int .i64 0, .string ⟨#[]⟩] 23)) g) (fun i _ => vs.length - (intOf i).toNat)
    case atStart =>
      obtain ⟨g, hg⟩ := more_refl (w.alloc (.cells #[.int .i64 0, .int .i64 0, .string ⟨#[]⟩] 23))
      exact ⟨0, g, by omega, rfl, Lib.hid (fun j _ h => absurd h (by omega)), hg⟩
    case round =>
      obtain ⟨k, g, hk, rfl, HS, rfl⟩ := hrel
      by_cases hlt : k < vs.length
      · obtain ⟨c0, c1, c2⟩ := HC.out k hlt
        obtain ⟨bd0, bd1, bd2⟩ := hb _ (List.getElem_mem hlt)
        have HB := Lib.hid (show Sp.goodV vs[k] = Sp.good vs[k].1 vs[k].2.1 vs[k].2.2.data.toList from rfl)
        generalize hp1 : vs[k].1 = f at *
        generalize hp2 : vs[k].2.1 = n at *
        generalize hp3 : vs[k].2.2 = t at *
        clear hp1 hp2 hp3
        cases hgd : Sp.good f n t.data.toList
        · have HF := Lib.hid (show Sp.callsF name.toList vs = (0, 0, 120) by
            unfold Sp.callsF
            rw [if_neg]
            intro h
            have := List.all_eq_true.1 h _ (List.getElem_mem hlt)
            rw [HB.out, hgd] at this
            cases this)
          go_wp2_with (first | (go_at_call 33; refine (Good_any _ _ _ _ (by assumption) (by assumption) (by assumption)).mono ?_; rintro e w' ⟨rfl, g, rfl⟩))
          go_returns
          exact ⟨by rw [← HFF.out, HF.out], more_of_below (by repeat' (first | (with_reducible exact Below.refl _ _) | (with_reducible assumption) | (with_reducible refine below_more ?_ ?_ _) | (with_reducible refine below_drewN ?_ _) | (with_reducible refine Below.drew ?_) | (with_reducible refine Below.alloc ?_ ?_ _) | (with_reducible refine Below.setCell ?_ ?_ _) | go_size | (simp [more_size]; done) | (simp [more_size]; omega)))⟩
        · have HN := Lib.hid (show ∀ j, (h : j < vs.length) → j < k + 1 → Sp.goodV vs[j] = true from fun j h hj => by
            by_cases e : j = k
            · subst e; rw [HB.out, hgd]
            · exact HS.out j h (by omega))
          go_wp2_with (first | (go_at_call 33; refine (Good_any _ _ _ _ (by assumption) (by assumption) (by assumption)).mono ?_; rintro e w' ⟨rfl, g, rfl⟩))
          go_roundw
          case rel => exact ⟨k + 1, _, by omega, by go_num, HN, by first | (rw [more_alloc, more_more]) | rfl⟩
          case measure => simp [intOf]; omega
      · have hke : k = vs.length := by omega
        subst hke
        have hall : vs.all Sp.goodV = true := by
          rw [List.all_eq_true]
          intro x hx
          obtain ⟨j, hj, rfl⟩ := List.getElem_of_mem hx
          exact HS.out j hj hj
        by_cases h3 : 3 ≤ vs.length
        · have HF := Lib.hid (show Sp.callsF name.toList vs = (0, 0, 120) by
            unfold Sp.callsF
            rw [if_pos hall]
            match vs, h3 with
            | x :: y :: z :: l, _ => rfl)
          have l1 : ((vs.length : Int) == 1) = false := by simp; omega
          have l2 : ((vs.length : Int) == 2) = false := by simp; omega
          clear hall HS
          go_wp2_with fail
          go_returns
          exact ⟨by rw [← HFF.out, HF.out], more_of_below (by repeat' (first | (with_reducible exact Below.refl _ _) | (with_reducible assumption) | (with_reducible refine below_more ?_ ?_ _) | (with_reducible refine below_drewN ?_ _) | (with_reducible refine Below.drew ?_) | (with_reducible refine Below.alloc ?_ ?_ _) | (with_reducible refine Below.setCell ?_ ?_ _) | go_size | (simp [more_size]; done) | (simp [more_size]; omega)))⟩
        match vs, hall, hn, hnc, HC, hb, HFF, h3 with
        | [], hall, hn, hnc, HC, hb, HFF, h3 =>
          clear HS h3
          go_wp2_with fail
          go_returns
          exact ⟨by rw [← HFF.out]; rfl, more_of_below (by repeat' (first | (with_reducible exact Below.refl _ _) | (with_reducible assumption) | (with_reducible refine below_more ?_ ?_ _) | (with_reducible refine below_drewN ?_ _) | (with_reducible refine Below.drew ?_) | (with_reducible refine Below.alloc ?_ ?_ _) | (with_reducible refine Below.setCell ?_ ?_ _) | go_size | (simp [more_size]; done) | (simp [more_size]; omega)))⟩
        | [x], hall, hn, hnc, HC, hb, HFF, h3 =>
          obtain ⟨c0, c1, c2⟩ := HC.out 0 (by simp)
          have hgx : Sp.good x.1 x.2.1 x.2.2.data.toList = true := by simpa [Sp.goodV] using hall
          have HF := Lib.hid (show Sp.callsF name.toList [x] = Sp.callF name.toList x.1 x.2.1 x.2.2.data.toList by unfold Sp.callsF; rw [if_pos hall])
          simp only [Nat.zero_mul, Nat.add_zero, List.getElem_cons_zero] at c0 c1 c2
          simp only [List.length_singleton] at hnc
          clear hall HS h3
          go_wp2_with (first | (go_at_call 93; refine (ccall_any _ _ _ _ _ (by assumption)).mono ?_; rintro e w' ⟨rfl, g, rfl⟩))
          go_returns
          exact ⟨by rw [← HFF.out, HF.out], more_of_below (by repeat' (first | (with_reducible exact Below.refl _ _) | (with_reducible assumption) | (with_reducible refine below_more ?_ ?_ _) | (with_reducible refine below_drewN ?_ _) | (with_reducible refine Below.drew ?_) | (with_reducible refine Below.alloc ?_ ?_ _) | (with_reducible refine Below.setCell ?_ ?_ _) | go_size | (simp [more_size]; done) | (simp [more_size]; omega)))⟩
        | [x, y], hall, hn, hnc, HC, hb, HFF, h3 =>
          obtain ⟨c0, c1, c2⟩ := HC.out 0 (by simp)
          obtain ⟨d0, d1, d2⟩ := HC.out 1 (by simp)
          simp only [Nat.zero_mul, Nat.one_mul, Nat.add_zero, List.getElem_cons_zero, List.getElem_cons_succ] at c0 c1 c2 d0 d1 d2
          simp only [List.length_cons, List.length_nil, Nat.zero_add, Nat.reduceAdd] at hnc
          have HF := Lib.hid (show Sp.callsF name.toList [x, y] = if (x.1 == 1 && y.1 == 1) = true then Sp.shiftF name.toList (x.2.1 % 4294967296) (y.2.1 % 4294967296) else (0, 0, 120) by unfold Sp.callsF; rw [if_pos hall])
          clear hall HS
          by_cases hx : x.1 = 1
          · by_cases hy : y.1 = 1
            · rw [hx] at c0
              rw [hy] at d0
              have HG := Lib.hid (HF.out.trans (if_pos (by simp [hx, hy])))
              clear HF hx hy
              go_wp2_with fail
              go_region_held3 (fun w' => b < w'.heap.size ∧ w'.cell? ⟨b, off + 1, none⟩ = some (.int .i64 x.2.1) ∧ w'.cell? ⟨b, off + 3 + 1, none⟩ = some (.int .i64 y.2.1)) ((refine ⟨?_, ?_, ?_⟩ <;> simp [go_sem, *])) (first | (go_at_call 85; refine (word_any _ _).mono ?_; rintro e w' ⟨rfl, rfl⟩) | (go_at_call 94; refine (shift_any _ _ _ _ (by omega) (by omega) (by omega) (by omega)).mono ?_; rintro e w' ⟨rfl, g, rfl⟩))
              all_goals go_wp2_with fail
              all_goals go_returns
              all_goals exact ⟨by rw [← HFF.out, HG.out], more_of_below (by repeat' (first | (with_reducible exact Below.refl _ _) | (with_reducible assumption) | (with_reducible refine below_more ?_ ?_ _) | (with_reducible refine below_drewN ?_ _) | (with_reducible refine Below.drew ?_) | (with_reducible refine Below.alloc ?_ ?_ _) | (with_reducible refine Below.setCell ?_ ?_ _) | go_size | (simp [more_size]; done) | (simp [more_size]; omega)))⟩
            · have hy' : (y.1 == 1) = false := by simpa using hy
              rw [hx] at c0
              have HG := Lib.hid (HF.out.trans (if_neg (by simp [hx, hy])))
              clear HF hx hy
              go_wp2_with fail
              go_returns
              exact ⟨by rw [← HFF.out, HG.out], more_of_below (by repeat' (first | (with_reducible exact Below.refl _ _) | (with_reducible assumption) | (with_reducible refine below_more ?_ ?_ _) | (with_reducible refine below_drewN ?_ _) | (with_reducible refine Below.drew ?_) | (with_reducible refine Below.alloc ?_ ?_ _) | (with_reducible refine Below.setCell ?_ ?_ _) | go_size | (simp [more_size]; done) | (simp [more_size]; omega)))⟩
          · have hx' : (x.1 == 1) = false := by simpa using hx
            have HG := Lib.hid (HF.out.trans (if_neg (by simp [hx])))
            clear HF hx
            go_wp2_with fail
            go_returns
            exact ⟨by rw [← HFF.out, HG.out], more_of_below (by repeat' (first | (with_reducible exact Below.refl _ _) | (with_reducible assumption) | (with_reducible refine below_more ?_ ?_ _) | (with_reducible refine below_drewN ?_ _) | (with_reducible refine Below.drew ?_) | (with_reducible refine Below.alloc ?_ ?_ _) | (with_reducible refine Below.setCell ?_ ?_ _) | go_size | (simp [more_size]; done) | (simp [more_size]; omega)))⟩
        | x :: y :: z :: l, hall, hn, hnc, HC, hb, HFF, h3 => exact absurd h3 (by simp)
end Go.Proofs.Ythcpedonpiihnaa
