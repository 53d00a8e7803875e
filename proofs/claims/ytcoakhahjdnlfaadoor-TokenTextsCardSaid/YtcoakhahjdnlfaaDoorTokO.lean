/- The walk of token.of: a table of the bytes of some ranges. Conditions: there is a range; the ranges' ends are bytes, and lie in their order. -/
import Derived.Test.YtcoakhahjdnlfaaDoorTokZ
namespace Go.Proofs.YtcoakhahjdnlfaaDoor
set_option linter.all false
open Go.RowKit
namespace Tk
def rstr (r : Nat × Nat) : Value := .string ⟨#[UInt8.ofNat r.1, UInt8.ofNat r.2]⟩
theorem rngs_snoc (rs : List (Nat × Nat)) (k : Nat) (h : k < rs.length) : rngs (rs.take (k + 1)) = rngs (rs.take k) ++ rng rs[k].1 rs[k].2 := by
  unfold rngs
  rw [List.take_succ, List.getElem?_eq_getElem h, List.flatMap_append]
  simp
theorem zero_table : Tryd.zeroCells108 = Lib.setCells [] := by kernel_rfl
theorem set_next (l : List UInt8) (lo hi i : Nat) (h : lo + i ≤ hi) (h2 : hi < 256) : (Lib.setCells (l ++ (rng lo hi).take i)).setIfInBounds (lo + i) (.bool true) = Lib.setCells (l ++ (rng lo hi).take (i + 1)) := by
  rw [rng_at lo hi i h, ← List.append_assoc, Lib.setCells_snoc]
  congr 1
  simp; omega
end Tk
set_option maxRecDepth 100000 in
set_option maxHeartbeats 2000000 in
theorem of_any (v : Value) (rs : List (Nat × Nat)) (w : World) (hR : Reads w v rs.length 1 (rs.map Tk.rstr)) (hne : 0 < rs.length) (hr : ∀ r ∈ rs, r.1 ≤ r.2 ∧ r.2 < 256) :
    Calls Tryd.prog 38 #[v] w fun e w' => e = .returned (.pointer (some ⟨w.heap.size, 0, none⟩)) ∧ w' = w.alloc (.cells (Lib.setCells (Tk.rngs rs)) 108) := by
  rcases hR.2 with ⟨h0, -⟩ | ⟨b, off, cap, rfl, hnc, hcm, hbl, hc⟩
  · omega
  have hl64 : cap ≤ 9223372036854775807 := by unfold maxLen at hcm; omega
  have HC := Lib.hid (fun k (h : k < rs.length) => hc k (Tk.rstr rs[k]) (by simp [h]))
  have HR := Lib.hid hr
  clear hc hR hr
  have HZ := Lib.hid Tk.zero_table
  go_enter Tryd.func38, Tryd.ntmps38
  go_wp2
  rw [Tk.zero_table]
  go_loopw [9] (fun i wr => ∃ k : Nat, k ≤ rs.length ∧ i = .int .i64 k ∧ wr = w.alloc (.cells (Lib.setCells (Tk.rngs (rs.take k))) 108)) (fun i _ => rs.length - (intOf i).toNat)
  case atStart => exact ⟨0, by omega, rfl, rfl⟩
  case round =>
    obtain ⟨k, hk, rfl, rfl⟩ := hrel
    by_cases hlt : k < rs.length
    · have hck := HC.out k hlt
      have hrk := HR.out _ (List.getElem_mem hlt)
      have HS := Lib.hid (Tk.rngs_snoc rs k hlt)
      generalize rs[k] = r at *
      obtain ⟨lo, hi⟩ := r
      simp only at hrk HS
      obtain ⟨hr1, hr2⟩ := hrk
      obtain ⟨a, rfl⟩ : ∃ a : UInt8, a.toNat = lo := ⟨UInt8.ofNat lo, by simp; omega⟩
      obtain ⟨z, rfl⟩ : ∃ z : UInt8, z.toNat = hi := ⟨UInt8.ofNat hi, by simp; omega⟩
      simp only [Tk.rstr, UInt8.ofNat_toNat] at hck
      have hza : z.toNat < 256 := z.toNat_lt
      obtain ⟨S, hS⟩ : ∃ S : ByteArray, S = ⟨#[a, z]⟩ := ⟨_, rfl⟩
      have hS2 : S.size = 2 := by rw [hS]; rfl
      have hS0 : S[0]'(by omega) = a := by subst hS; rfl
      have hS1 : S[1]'(by omega) = z := by subst hS; rfl
      rw [← hS] at hck
      clear hS
      have wa := Lib.hid <| show wrap64 (a.toNat : Int) = a.toNat by unfold wrap64; omega
      have wz := Lib.hid <| show wrap64 (z.toNat : Int) = z.toNat by unfold wrap64; omega
      go_wp2
      go_loopw [6] (fun i wr => ∃ j : Nat, a.toNat + j ≤ z.toNat + 1 ∧ i = .int .i64 ((a.toNat + j : Nat) : Int) ∧ wr = w.alloc (.cells (Lib.setCells (Tk.rngs (rs.take k) ++ (Tk.rng a.toNat z.toNat).take j)) 108)) (fun i _ => z.toNat + 1 - (intOf i).toNat)
      case atStart => exact ⟨0, by omega, rfl, by simp⟩
      case round =>
        obtain ⟨j, hj, rfl, rfl⟩ := hrel
        by_cases hjl : a.toNat + j ≤ z.toNat
        · have HN := Lib.hid (Tk.set_next (Tk.rngs (rs.take k)) a.toNat z.toNat j hjl hza)
          have hsz := Lib.setCells_size (Tk.rngs (rs.take k) ++ (Tk.rng a.toNat z.toNat).take j)
          generalize Lib.setCells (Tk.rngs (rs.take k) ++ (Tk.rng a.toNat z.toNat).take j) = T at *
          generalize hq : a.toNat + j = q at *
          obtain ⟨v0, hT0⟩ : ∃ v0, T[q]? = some v0 := ⟨T[q]'(by omega), Array.getElem?_eq_getElem (by omega)⟩
          go_wp2
          refine ⟨⟨j + 1, by omega, by rw [← hq]; simp; omega, by rw [HN.out]⟩, by simp [intOf]; omega⟩
        · have hje : j = z.toNat + 1 - a.toNat := by omega
          have hjq : a.toNat + j = z.toNat + 1 := by omega
          have HE := Lib.hid (show Tk.rngs (rs.take k) ++ (Tk.rng a.toNat z.toNat).take j = Tk.rngs (rs.take (k + 1)) by
            have hl := Tk.rng_len a.toNat z.toNat
            rw [HS.out, List.take_of_length_le (l := Tk.rng a.toNat z.toNat) (by omega)])
          rw [HE.out, hjq]
          clear hje hjq hjl hj
          go_wp2
          refine ⟨⟨k + 1, by omega, by simp, rfl⟩, by simp [intOf]; omega⟩
    · have hke : k = rs.length := by omega
      subst hke
      go_wp2
      go_ret
      exact ⟨rfl, by first | rfl | rw [List.take_length]⟩
end Go.Proofs.YtcoakhahjdnlfaaDoor
