/- The walk of the law's large (layer 12): is one of the texts longer than 5000? Conditions: there are fewer than 2 to the 31st values. -/
import Derived.Test.YthcpedonpiihnaaWakeW
import Derived.Test.YthcpedonpiihnaaOneW
namespace Go.Proofs.Ythcpedonpiihnaa
set_option linter.all false
open Go.RowKit
abbrev Va : Type := Int × Int × ByteArray
/-- the cells of values -/
def valCells (vs : List Va) : List Value := vs.flatMap fun v => [.int .i64 v.1, .int .i64 v.2.1, .string v.2.2]
theorem valCells_len (vs : List Va) : (valCells vs).length = vs.length * 3 := by
  induction vs with
  | nil => rfl
  | cons p t ih => simp [valCells] at ih ⊢; omega
theorem valCells_at (vs : List Va) (k : Nat) (h : k < vs.length) : (valCells vs)[k * 3]? = some (.int .i64 vs[k].1) ∧ (valCells vs)[k * 3 + 1]? = some (.int .i64 vs[k].2.1) ∧ (valCells vs)[k * 3 + 2]? = some (.string vs[k].2.2) := by
  induction vs generalizing k with
  | nil => simp at h
  | cons p t ih =>
    cases k with
    | zero => simp [valCells]
    | succ k =>
      have := ih k (by simpa using h)
      simp only [valCells, List.flatMap_cons, List.getElem_cons_succ] at this ⊢
      rw [show (k + 1) * 3 = k * 3 + 3 from by omega]
      simpa using this
namespace Sp
def large (vs : List (Int × Int × ByteArray)) : Bool := vs.any fun v => decide (5000 < v.2.2.size)
end Sp
theorem large_drop (vs : List Va) (k : Nat) (h : k < vs.length) : Sp.large (vs.drop k) = (decide (5000 < vs[k].2.2.size) || Sp.large (vs.drop (k + 1))) := by
  rw [List.drop_eq_getElem_cons h]; rfl
set_option maxRecDepth 100000 in
theorem large_any (v : Value) (vs : List Va) (w : World) (hR : Reads w v vs.length 3 (valCells vs)) :
    Calls Try.prog 16 #[v] w fun e w' => e = .returned (.bool (Sp.large vs)) ∧ w = w' := by
  rcases hR.2 with ⟨h0, a, cap, rfl, -⟩ | ⟨b, off, cap, rfl, hnc, hcm, hbl, hc⟩
  · have hps : vs = [] := List.eq_nil_of_length_eq_zero h0
    subst hps
    clear hR h0
    go_enter Try.func16, Try.ntmps16
    go_wp2_with fail
    go_loop [3] (fun i => i = .int .i64 0) (fun i => 0)
    case atStart => rfl
    case round =>
      subst hrel
      go_wp2_with fail
      go_ret
      exact ⟨rfl, rfl⟩
  · clear hR
    have hl64 : cap ≤ 9223372036854775807 := by unfold maxLen at hcm; omega
    have hcell : ∀ k, (h : k < vs.length) → w.cell? ⟨b, off + k * 3 + 2, none⟩ = some (.string vs[k].2.2) := fun k h => by
      have := hc _ _ (valCells_at vs k h).2.2; rwa [← Nat.add_assoc] at this
    have HC := Lib.hid hcell
    clear hc hcell
    go_enter Try.func16, Try.ntmps16
    go_wp2_with fail
    go_loop [3] (fun i => ∃ k : Nat, k ≤ vs.length ∧ i = .int .i64 k ∧ Hid (Sp.large (vs.drop k) = Sp.large vs)) (fun i => vs.length - (intOf i).toNat)
    case atStart => exact ⟨0, by omega, rfl, Lib.hid rfl⟩
    case round =>
      obtain ⟨k, hk, rfl, HS⟩ := hrel
      by_cases hlt : k < vs.length
      · have c2 := HC.out k hlt
        have HL := Lib.hid (large_drop vs k hlt)
        generalize hs : vs[k].2.2 = s at *
        clear hs
        by_cases hbig : 5000 < s.size
        · have HF := Lib.hid (show Sp.large vs = true by rw [← HS.out, HL.out]; simp [hbig])
          go_wp2_with fail
          go_ret
          exact ⟨by rw [HF.out]; rfl, rfl⟩
        · have HF := Lib.hid (show Sp.large (vs.drop (k + 1)) = Sp.large vs by rw [← HS.out, HL.out]; simp [hbig])
          go_wp2_with fail
          go_round
          case rel => exact ⟨k + 1, by omega, by go_num, HF⟩
          case measure => simp [intOf]; omega
      · have hke : k = vs.length := by omega
        subst hke
        have HF := Lib.hid (show Sp.large vs = false by rw [← HS.out, List.drop_length]; rfl)
        go_wp2_with fail
        go_ret
        exact ⟨by rw [HF.out]; rfl, rfl⟩
/-- slices that a text lays of one or two values -/
theorem reads_1 {w : World} {b cap : Nat} {f n : Int} {t : ByteArray} (hb : b < w.heap.size) (hc : 1 ≤ cap) (hm : cap ≤ maxLen) (h0 : w.cell? ⟨b, 0, none⟩ = some (.int .i64 f)) (h1 : w.cell? ⟨b, 1, none⟩ = some (.int .i64 n)) (h2 : w.cell? ⟨b, 2, none⟩ = some (.string t)) :
    Reads w (.slice (some ⟨b, 0, none⟩) 1 cap) [((f, n, t) : Va)].length 3 (valCells [(f, n, t)]) := by
  refine ⟨rfl, .inr ⟨b, 0, cap, rfl, hc, hm, hb, fun j u hu => ?_⟩⟩
  have : j < 3 := by simpa [valCells] using (List.getElem?_eq_some_iff.1 hu).1
  match j, this with
  | 0, _ => simp [valCells] at hu; subst hu; exact h0
  | 1, _ => simp [valCells] at hu; subst hu; exact h1
  | 2, _ => simp [valCells] at hu; subst hu; exact h2
theorem reads_2 {w : World} {b cap : Nat} {f n f' n' : Int} {t t' : ByteArray} (hb : b < w.heap.size) (hc : 2 ≤ cap) (hm : cap ≤ maxLen) (h0 : w.cell? ⟨b, 0, none⟩ = some (.int .i64 f)) (h1 : w.cell? ⟨b, 1, none⟩ = some (.int .i64 n)) (h2 : w.cell? ⟨b, 2, none⟩ = some (.string t))
    (h3 : w.cell? ⟨b, 3, none⟩ = some (.int .i64 f')) (h4 : w.cell? ⟨b, 4, none⟩ = some (.int .i64 n')) (h5 : w.cell? ⟨b, 5, none⟩ = some (.string t')) :
    Reads w (.slice (some ⟨b, 0, none⟩) 2 cap) [((f, n, t) : Va), (f', n', t')].length 3 (valCells [(f, n, t), (f', n', t')]) := by
  refine ⟨rfl, .inr ⟨b, 0, cap, rfl, hc, hm, hb, fun j u hu => ?_⟩⟩
  have : j < 6 := by simpa [valCells] using (List.getElem?_eq_some_iff.1 hu).1
  match j, this with
  | 0, _ => simp [valCells] at hu; subst hu; exact h0
  | 1, _ => simp [valCells] at hu; subst hu; exact h1
  | 2, _ => simp [valCells] at hu; subst hu; exact h2
  | 3, _ => simp [valCells] at hu; subst hu; exact h3
  | 4, _ => simp [valCells] at hu; subst hu; exact h4
  | 5, _ => simp [valCells] at hu; subst hu; exact h5
end Go.Proofs.Ythcpedonpiihnaa
