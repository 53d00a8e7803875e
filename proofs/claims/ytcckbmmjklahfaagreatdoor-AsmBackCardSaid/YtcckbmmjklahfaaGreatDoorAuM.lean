/- The walk of the document's Hex. Conditions: the word is one. The walk of the document's Lines: words, line by line. Conditions: the list reads as a list of words, and is not too long. -/
import Derived.Test.YtcckbmmjklahfaaGreatDoorAuH
import Derived.Test.YtcckbmmjklahfaaGreatDoorAsG
import Derived.Test.YtcckbmmjklahfaaGreatDoorAtD
import Derived.Test.YtcckbmmjklahfaaGreatDoorAuB
namespace Go.Proofs.YtcckbmmjklahfaaGreatDoor
set_option linter.all false
open Go.RowKit
namespace As
def bcell (l : List UInt8) : List Value := l.map fun c => Value.int .u8 (c.toNat : Int)
abbrev digs16 : ByteArray := ⟨#[48, 49, 50, 51, 52, 53, 54, 55, 56, 57, 97, 98, 99, 100, 101, 102]⟩
theorem digs16_at (d : Nat) (h : d < 16) (h2 : d < digs16.size) : digs16[d]'h2 = lx d := by
  have : ∀ d : Fin 16, digs16[d.1]'(by exact d.2) = lx d.1 := by decide
  exact this ⟨d, h⟩
theorem hexK_next (k : Nat) (q : Int) (D : Nat) (hD : (D : Int) = q % 16) : bcell (hexK (k + 1) q) = bcell (hexK k (q / 16)) ++ [.int .u8 ((lx D).toNat : Int)] := by
  have : (q % 16).toNat = D := by omega
  simp [hexK, bcell, this]
/-- the first k digits, as cells -/
def hx (k : Nat) (z : Int) : List Value := bcell (hexK k (z / 16 ^ (8 - k)))
end As
theorem convert_reads {W : World} {b off : Nat} {l : List UInt8} (cap : Nat) (h : ∀ j u, (As.bcell l)[j]? = some u → W.cell? ⟨b, off + j, none⟩ = some u) :
    (convert 57 9 (.slice (some ⟨b, off, none⟩) l.length cap)).run Tryz.prog W = .ok (.string ⟨l.toArray⟩) W := by
  have := run_convert_bytes_arg (P := Tryz.prog) W 57 5 Tryz.underlying57 Tryz.underlying5 b off l.length cap (l.map fun c => (c.toNat : Int)) (by simp) (fun j hj => ?_) 9 Tryz.underlying9
  · have hs : strOfNums (l.map fun c => (c.toNat : Int)) = ⟨l.toArray⟩ := by
      apply ByteArray.ext
      have hm : (l.map fun c => (c.toNat : Int)).map (fun n => UInt8.ofNat n.toNat) = l := by
        rw [List.map_map]
        conv => rhs; rw [← List.map_id l]
        refine List.map_congr_left fun c _ => ?_
        simp
      show (((l.map fun c => (c.toNat : Int)).map (fun n => UInt8.ofNat n.toNat)).toArray : Array UInt8) = l.toArray
      rw [hm]
    rw [this, hs]
  · exact h j _ (by simp [As.bcell, hj, List.getD])
theorem info_byte : (Tryz.prog.info? 5).map (fun i => (i.zero, i.size, i.bytes)) = some (some (.int .u8 0), 1, 1) := by kernel_rfl
set_option maxRecDepth 100000 in
set_option maxHeartbeats 3200000 in
theorem rhex8_any (z : Int) (h0 : 0 ≤ z) (h1 : z < 4294967296) (w : World) :
    Calls Tryz.prog 32 #[.int .u32 z] w fun e w' => e = .returned (.string ⟨(As.hex8 z).toArray⟩) ∧ ∃ g, w' = more w g := by
  obtain ⟨i0, hi, hz0, hz1, hz2⟩ := info_parts info_byte
  have hdig := fun (d : Nat) (h : d < 16) => As.digs16_at d h
  replace hdig := Lib.hid hdig
  go_enter Tryz.func32, Tryz.ntmps32
  go_wp2
  go_loopw [3, 4] (fun v i wr => ∃ k : Nat, k ≤ 8 ∧ i = .int .i64 (7 - (k : Int)) ∧ Hid (wr.ownsRow w.heap.size 5 1 v k (As.hx k z)) ∧ Hid (Below w.heap.size w wr)) (fun _ i _ => (intOf i + 1).toNat)
  case atStart => exact ⟨0, by omega, rfl, Lib.hid (by unfold As.hx; exact World.ownsRow_nil _ _ _ _), Lib.hid (Below.refl _ _)⟩
  case round =>
    obtain ⟨k, hk, rfl, HO, HB⟩ := hrel
    have hsz := HB.out.size
    by_cases hlt : k < 8
    · have h8 : k = 0 ∨ k = 1 ∨ k = 2 ∨ k = 3 ∨ k = 4 ∨ k = 5 ∨ k = 6 ∨ k = 7 := by omega
      rcases h8 with rfl | rfl | rfl | rfl | rfl | rfl | rfl | rfl
      · obtain ⟨D, hD⟩ : ∃ D : Nat, (D : Int) = z / 268435456 % 16 := ⟨(z / 268435456 % 16).toNat, by omega⟩
        have hand : bits .and .u32 (z / 268435456) 15 = (D : Int) := by
          rw [hD]
          have := u32_and (z / 268435456) 15 (by omega) (by omega) (by decide) (by decide)
          rw [show (15 : Int).toNat = 2 ^ 4 - 1 from rfl, Nat.and_two_pow_sub_one_eq_mod] at this
          omega
        have hD16 : D < 16 := by omega
        have hDi : (D : Int) < 16 := by omega
        have hdk := hdig.out D hD16
        have HN := Lib.hid (show As.hx 1 z = As.hx 0 z ++ [.int .u8 ((As.lx D).toNat : Int)] by
          have h := As.hexK_next 0 (z / 268435456) D hD
          have e1 : z / 16 ^ (8 - 1) = z / 268435456 := by simp
          have e2 : z / 16 ^ (8 - 0) = z / 268435456 / 16 := by simp; omega
          unfold As.hx; rw [e1, e2]; exact h)
        clear hD
        generalize As.lx D = C at *
        go_wp2_with (at_builtin; refine wpList_append_reads rfl _ _ 57 rfl w.heap.size 5 i0 (.int .u8 0) 1 1 Tryz.underlying57 hi hz0 hz1 hz2 rfl (by decide) u3 0 _ rfl (owns_kept' HO.out ?_) _ 1 [.int .u8 (C.toNat : Int)] rfl (reads_litq _ _ #[.int .u8 (C.toNat : Int)] 5 1 1 (by decide) rfl ?_) ?_ ?_ ?_ ?_ ?_; (focus (exact (by repeat' (first | (with_reducible exact Below.refl _ _) | (with_reducible assumption) | (with_reducible refine below_more ?_ ?_ _) | (with_reducible refine below_drewN ?_ _) | (with_reducible refine Below.drew ?_) | (with_reducible refine Below.alloc ?_ ?_ _) | (with_reducible refine Below.setCell ?_ ?_ _) | go_size | (simp [more_size]; done) | (simp [more_size]; omega))))); (focus (simp; done)); (focus (intro q hq; simp at hq; subst hq; rfl)); (focus (unfold maxLen; omega)); (focus omega); (focus (simp; omega)); intro v' w1 hown' hgrow)
        refine ⟨⟨1, by omega, by simp, Lib.hid (HN.out ▸ hown'), Lib.hid (below_grown (HB.out.alloc hsz _) (by rw [As.sz]; omega) hgrow (owns_rows HO.out))⟩, by simp [intOf]⟩
      · obtain ⟨D, hD⟩ : ∃ D : Nat, (D : Int) = z / 16777216 % 16 := ⟨(z / 16777216 % 16).toNat, by omega⟩
        have hand : bits .and .u32 (z / 16777216) 15 = (D : Int) := by
          rw [hD]
          have := u32_and (z / 16777216) 15 (by omega) (by omega) (by decide) (by decide)
          rw [show (15 : Int).toNat = 2 ^ 4 - 1 from rfl, Nat.and_two_pow_sub_one_eq_mod] at this
          omega
        have hD16 : D < 16 := by omega
        have hDi : (D : Int) < 16 := by omega
        have hdk := hdig.out D hD16
        have HN := Lib.hid (show As.hx 2 z = As.hx 1 z ++ [.int .u8 ((As.lx D).toNat : Int)] by
          have h := As.hexK_next 1 (z / 16777216) D hD
          have e1 : z / 16 ^ (8 - 2) = z / 16777216 := by simp
          have e2 : z / 16 ^ (8 - 1) = z / 16777216 / 16 := by simp; omega
          unfold As.hx; rw [e1, e2]; exact h)
        clear hD
        generalize As.lx D = C at *
        go_wp2_with (at_builtin; refine wpList_append_reads rfl _ _ 57 rfl w.heap.size 5 i0 (.int .u8 0) 1 1 Tryz.underlying57 hi hz0 hz1 hz2 rfl (by decide) u3 1 _ rfl (owns_kept' HO.out ?_) _ 1 [.int .u8 (C.toNat : Int)] rfl (reads_litq _ _ #[.int .u8 (C.toNat : Int)] 5 1 1 (by decide) rfl ?_) ?_ ?_ ?_ ?_ ?_; (focus (exact (by repeat' (first | (with_reducible exact Below.refl _ _) | (with_reducible assumption) | (with_reducible refine below_more ?_ ?_ _) | (with_reducible refine below_drewN ?_ _) | (with_reducible refine Below.drew ?_) | (with_reducible refine Below.alloc ?_ ?_ _) | (with_reducible refine Below.setCell ?_ ?_ _) | go_size | (simp [more_size]; done) | (simp [more_size]; omega))))); (focus (simp; done)); (focus (intro q hq; simp at hq; subst hq; rfl)); (focus (unfold maxLen; omega)); (focus omega); (focus (simp; omega)); intro v' w1 hown' hgrow)
        refine ⟨⟨2, by omega, by simp, Lib.hid (HN.out ▸ hown'), Lib.hid (below_grown (HB.out.alloc hsz _) (by rw [As.sz]; omega) hgrow (owns_rows HO.out))⟩, by simp [intOf]⟩
      · obtain ⟨D, hD⟩ : ∃ D : Nat, (D : Int) = z / 1048576 % 16 := ⟨(z / 1048576 % 16).toNat, by omega⟩
        have hand : bits .and .u32 (z / 1048576) 15 = (D : Int) := by
          rw [hD]
          have := u32_and (z / 1048576) 15 (by omega) (by omega) (by decide) (by decide)
          rw [show (15 : Int).toNat = 2 ^ 4 - 1 from rfl, Nat.and_two_pow_sub_one_eq_mod] at this
          omega
        have hD16 : D < 16 := by omega
        have hDi : (D : Int) < 16 := by omega
        have hdk := hdig.out D hD16
        have HN := Lib.hid (show As.hx 3 z = As.hx 2 z ++ [.int .u8 ((As.lx D).toNat : Int)] by
          have h := As.hexK_next 2 (z / 1048576) D hD
          have e1 : z / 16 ^ (8 - 3) = z / 1048576 := by simp
          have e2 : z / 16 ^ (8 - 2) = z / 1048576 / 16 := by simp; omega
          unfold As.hx; rw [e1, e2]; exact h)
        clear hD
        generalize As.lx D = C at *
        go_wp2_with (at_builtin; refine wpList_append_reads rfl _ _ 57 rfl w.heap.size 5 i0 (.int .u8 0) 1 1 Tryz.underlying57 hi hz0 hz1 hz2 rfl (by decide) u3 2 _ rfl (owns_kept' HO.out ?_) _ 1 [.int .u8 (C.toNat : Int)] rfl (reads_litq _ _ #[.int .u8 (C.toNat : Int)] 5 1 1 (by decide) rfl ?_) ?_ ?_ ?_ ?_ ?_; (focus (exact (by repeat' (first | (with_reducible exact Below.refl _ _) | (with_reducible assumption) | (with_reducible refine below_more ?_ ?_ _) | (with_reducible refine below_drewN ?_ _) | (with_reducible refine Below.drew ?_) | (with_reducible refine Below.alloc ?_ ?_ _) | (with_reducible refine Below.setCell ?_ ?_ _) | go_size | (simp [more_size]; done) | (simp [more_size]; omega))))); (focus (simp; done)); (focus (intro q hq; simp at hq; subst hq; rfl)); (focus (unfold maxLen; omega)); (focus omega); (focus (simp; omega)); intro v' w1 hown' hgrow)
        refine ⟨⟨3, by omega, by simp, Lib.hid (HN.out ▸ hown'), Lib.hid (below_grown (HB.out.alloc hsz _) (by rw [As.sz]; omega) hgrow (owns_rows HO.out))⟩, by simp [intOf]⟩
      · obtain ⟨D, hD⟩ : ∃ D : Nat, (D : Int) = z / 65536 % 16 := ⟨(z / 65536 % 16).toNat, by omega⟩
        have hand : bits .and .u32 (z / 65536) 15 = (D : Int) := by
          rw [hD]
          have := u32_and (z / 65536) 15 (by omega) (by omega) (by decide) (by decide)
          rw [show (15 : Int).toNat = 2 ^ 4 - 1 from rfl, Nat.and_two_pow_sub_one_eq_mod] at this
          omega
        have hD16 : D < 16 := by omega
        have hDi : (D : Int) < 16 := by omega
        have hdk := hdig.out D hD16
        have HN := Lib.hid (show As.hx 4 z = As.hx 3 z ++ [.int .u8 ((As.lx D).toNat : Int)] by
          have h := As.hexK_next 3 (z / 65536) D hD
          have e1 : z / 16 ^ (8 - 4) = z / 65536 := by simp
          have e2 : z / 16 ^ (8 - 3) = z / 65536 / 16 := by simp; omega
          unfold As.hx; rw [e1, e2]; exact h)
        clear hD
        generalize As.lx D = C at *
        go_wp2_with (at_builtin; refine wpList_append_reads rfl _ _ 57 rfl w.heap.size 5 i0 (.int .u8 0) 1 1 Tryz.underlying57 hi hz0 hz1 hz2 rfl (by decide) u3 3 _ rfl (owns_kept' HO.out ?_) _ 1 [.int .u8 (C.toNat : Int)] rfl (reads_litq _ _ #[.int .u8 (C.toNat : Int)] 5 1 1 (by decide) rfl ?_) ?_ ?_ ?_ ?_ ?_; (focus (exact (by repeat' (first | (with_reducible exact Below.refl _ _) | (with_reducible assumption) | (with_reducible refine below_more ?_ ?_ _) | (with_reducible refine below_drewN ?_ _) | (with_reducible refine Below.drew ?_) | (with_reducible refine Below.alloc ?_ ?_ _) | (with_reducible refine Below.setCell ?_ ?_ _) | go_size | (simp [more_size]; done) | (simp [more_size]; omega))))); (focus (simp; done)); (focus (intro q hq; simp at hq; subst hq; rfl)); (focus (unfold maxLen; omega)); (focus omega); (focus (simp; omega)); intro v' w1 hown' hgrow)
        refine ⟨⟨4, by omega, by simp, Lib.hid (HN.out ▸ hown'), Lib.hid (below_grown (HB.out.alloc hsz _) (by rw [As.sz]; omega) hgrow (owns_rows HO.out))⟩, by simp [intOf]⟩
      · obtain ⟨D, hD⟩ : ∃ D : Nat, (D : Int) = z / 4096 % 16 := ⟨(z / 4096 % 16).toNat, by omega⟩
        have hand : bits .and .u32 (z / 4096) 15 = (D : Int) := by
          rw [hD]
          have := u32_and (z / 4096) 15 (by omega) (by omega) (by decide) (by decide)
          rw [show (15 : Int).toNat = 2 ^ 4 - 1 from rfl, Nat.and_two_pow_sub_one_eq_mod] at this
          omega
        have hD16 : D < 16 := by omega
        have hDi : (D : Int) < 16 := by omega
        have hdk := hdig.out D hD16
        have HN := Lib.hid (show As.hx 5 z = As.hx 4 z ++ [.int .u8 ((As.lx D).toNat : Int)] by
          have h := As.hexK_next 4 (z / 4096) D hD
          have e1 : z / 16 ^ (8 - 5) = z / 4096 := by simp
          have e2 : z / 16 ^ (8 - 4) = z / 4096 / 16 := by simp; omega
          unfold As.hx; rw [e1, e2]; exact h)
        clear hD
        generalize As.lx D = C at *
        go_wp2_with (at_builtin; refine wpList_append_reads rfl _ _ 57 rfl w.heap.size 5 i0 (.int .u8 0) 1 1 Tryz.underlying57 hi hz0 hz1 hz2 rfl (by decide) u3 4 _ rfl (owns_kept' HO.out ?_) _ 1 [.int .u8 (C.toNat : Int)] rfl (reads_litq _ _ #[.int .u8 (C.toNat : Int)] 5 1 1 (by decide) rfl ?_) ?_ ?_ ?_ ?_ ?_; (focus (exact (by repeat' (first | (with_reducible exact Below.refl _ _) | (with_reducible assumption) | (with_reducible refine below_more ?_ ?_ _) | (with_reducible refine below_drewN ?_ _) | (with_reducible refine Below.drew ?_) | (with_reducible refine Below.alloc ?_ ?_ _) | (with_reducible refine Below.setCell ?_ ?_ _) | go_size | (simp [more_size]; done) | (simp [more_size]; omega))))); (focus (simp; done)); (focus (intro q hq; simp at hq; subst hq; rfl)); (focus (unfold maxLen; omega)); (focus omega); (focus (simp; omega)); intro v' w1 hown' hgrow)
        refine ⟨⟨5, by omega, by simp, Lib.hid (HN.out ▸ hown'), Lib.hid (below_grown (HB.out.alloc hsz _) (by rw [As.sz]; omega) hgrow (owns_rows HO.out))⟩, by simp [intOf]⟩
      · obtain ⟨D, hD⟩ : ∃ D : Nat, (D : Int) = z / 256 % 16 := ⟨(z / 256 % 16).toNat, by omega⟩
        have hand : bits .and .u32 (z / 256) 15 = (D : Int) := by
          rw [hD]
          have := u32_and (z / 256) 15 (by omega) (by omega) (by decide) (by decide)
          rw [show (15 : Int).toNat = 2 ^ 4 - 1 from rfl, Nat.and_two_pow_sub_one_eq_mod] at this
          omega
        have hD16 : D < 16 := by omega
        have hDi : (D : Int) < 16 := by omega
        have hdk := hdig.out D hD16
        have HN := Lib.hid (show As.hx 6 z = As.hx 5 z ++ [.int .u8 ((As.lx D).toNat : Int)] by
          have h := As.hexK_next 5 (z / 256) D hD
          have e1 : z / 16 ^ (8 - 6) = z / 256 := by simp
          have e2 : z / 16 ^ (8 - 5) = z / 256 / 16 := by simp; omega
          unfold As.hx; rw [e1, e2]; exact h)
        clear hD
        generalize As.lx D = C at *
        go_wp2_with (at_builtin; refine wpList_append_reads rfl _ _ 57 rfl w.heap.size 5 i0 (.int .u8 0) 1 1 Tryz.underlying57 hi hz0 hz1 hz2 rfl (by decide) u3 5 _ rfl (owns_kept' HO.out ?_) _ 1 [.int .u8 (C.toNat : Int)] rfl (reads_litq _ _ #[.int .u8 (C.toNat : Int)] 5 1 1 (by decide) rfl ?_) ?_ ?_ ?_ ?_ ?_; (focus (exact (by repeat' (first | (with_reducible exact Below.refl _ _) | (with_reducible assumption) | (with_reducible refine below_more ?_ ?_ _) | (with_reducible refine below_drewN ?_ _) | (with_reducible refine Below.drew ?_) | (with_reducible refine Below.alloc ?_ ?_ _) | (with_reducible refine Below.setCell ?_ ?_ _) | go_size | (simp [more_size]; done) | (simp [more_size]; omega))))); (focus (simp; done)); (focus (intro q hq; simp at hq; subst hq; rfl)); (focus (unfold maxLen; omega)); (focus omega); (focus (simp; omega)); intro v' w1 hown' hgrow)
        refine ⟨⟨6, by omega, by simp, Lib.hid (HN.out ▸ hown'), Lib.hid (below_grown (HB.out.alloc hsz _) (by rw [As.sz]; omega) hgrow (owns_rows HO.out))⟩, by simp [intOf]⟩
      · obtain ⟨D, hD⟩ : ∃ D : Nat, (D : Int) = z / 16 % 16 := ⟨(z / 16 % 16).toNat, by omega⟩
        have hand : bits .and .u32 (z / 16) 15 = (D : Int) := by
          rw [hD]
          have := u32_and (z / 16) 15 (by omega) (by omega) (by decide) (by decide)
          rw [show (15 : Int).toNat = 2 ^ 4 - 1 from rfl, Nat.and_two_pow_sub_one_eq_mod] at this
          omega
        have hD16 : D < 16 := by omega
        have hDi : (D : Int) < 16 := by omega
        have hdk := hdig.out D hD16
        have HN := Lib.hid (show As.hx 7 z = As.hx 6 z ++ [.int .u8 ((As.lx D).toNat : Int)] by
          have h := As.hexK_next 6 (z / 16) D hD
          have e1 : z / 16 ^ (8 - 7) = z / 16 := by simp
          have e2 : z / 16 ^ (8 - 6) = z / 16 / 16 := by simp; omega
          unfold As.hx; rw [e1, e2]; exact h)
        clear hD
        generalize As.lx D = C at *
        go_wp2_with (at_builtin; refine wpList_append_reads rfl _ _ 57 rfl w.heap.size 5 i0 (.int .u8 0) 1 1 Tryz.underlying57 hi hz0 hz1 hz2 rfl (by decide) u3 6 _ rfl (owns_kept' HO.out ?_) _ 1 [.int .u8 (C.toNat : Int)] rfl (reads_litq _ _ #[.int .u8 (C.toNat : Int)] 5 1 1 (by decide) rfl ?_) ?_ ?_ ?_ ?_ ?_; (focus (exact (by repeat' (first | (with_reducible exact Below.refl _ _) | (with_reducible assumption) | (with_reducible refine below_more ?_ ?_ _) | (with_reducible refine below_drewN ?_ _) | (with_reducible refine Below.drew ?_) | (with_reducible refine Below.alloc ?_ ?_ _) | (with_reducible refine Below.setCell ?_ ?_ _) | go_size | (simp [more_size]; done) | (simp [more_size]; omega))))); (focus (simp; done)); (focus (intro q hq; simp at hq; subst hq; rfl)); (focus (unfold maxLen; omega)); (focus omega); (focus (simp; omega)); intro v' w1 hown' hgrow)
        refine ⟨⟨7, by omega, by simp, Lib.hid (HN.out ▸ hown'), Lib.hid (below_grown (HB.out.alloc hsz _) (by rw [As.sz]; omega) hgrow (owns_rows HO.out))⟩, by simp [intOf]⟩
      · obtain ⟨D, hD⟩ : ∃ D : Nat, (D : Int) = z % 16 := ⟨(z % 16).toNat, by omega⟩
        have hand : bits .and .u32 (z) 15 = (D : Int) := by
          rw [hD]
          have := u32_and (z) 15 (by omega) (by omega) (by decide) (by decide)
          rw [show (15 : Int).toNat = 2 ^ 4 - 1 from rfl, Nat.and_two_pow_sub_one_eq_mod] at this
          omega
        have hD16 : D < 16 := by omega
        have hDi : (D : Int) < 16 := by omega
        have hdk := hdig.out D hD16
        have HN := Lib.hid (show As.hx 8 z = As.hx 7 z ++ [.int .u8 ((As.lx D).toNat : Int)] by
          have h := As.hexK_next 7 (z) D hD
          have e1 : z / 16 ^ (8 - 8) = z := by simp
          have e2 : z / 16 ^ (8 - 7) = z / 16 := by simp
          unfold As.hx; rw [e1, e2]; exact h)
        clear hD
        generalize As.lx D = C at *
        go_wp2_with (at_builtin; refine wpList_append_reads rfl _ _ 57 rfl w.heap.size 5 i0 (.int .u8 0) 1 1 Tryz.underlying57 hi hz0 hz1 hz2 rfl (by decide) u3 7 _ rfl (owns_kept' HO.out ?_) _ 1 [.int .u8 (C.toNat : Int)] rfl (reads_litq _ _ #[.int .u8 (C.toNat : Int)] 5 1 1 (by decide) rfl ?_) ?_ ?_ ?_ ?_ ?_; (focus (exact (by repeat' (first | (with_reducible exact Below.refl _ _) | (with_reducible assumption) | (with_reducible refine below_more ?_ ?_ _) | (with_reducible refine below_drewN ?_ _) | (with_reducible refine Below.drew ?_) | (with_reducible refine Below.alloc ?_ ?_ _) | (with_reducible refine Below.setCell ?_ ?_ _) | go_size | (simp [more_size]; done) | (simp [more_size]; omega))))); (focus (simp; done)); (focus (intro q hq; simp at hq; subst hq; rfl)); (focus (unfold maxLen; omega)); (focus omega); (focus (simp; omega)); intro v' w1 hown' hgrow)
        refine ⟨⟨8, by omega, by simp, Lib.hid (HN.out ▸ hown'), Lib.hid (below_grown (HB.out.alloc hsz _) (by rw [As.sz]; omega) hgrow (owns_rows HO.out))⟩, by simp [intOf]⟩
    · have hk8 : k = 8 := by omega
      subst hk8
      have hown := HO.out
      have hx8 : As.hx 8 z = As.bcell (As.hex8 z) := by unfold As.hx As.hex8; simp
      rw [hx8] at hown
      have hl8 : (As.hex8 z).length = 8 := As.hexK_len 8 z
      rcases (Reads.of_owns hown).2 with ⟨h, _⟩ | ⟨b, off, cap, hv, _, _, _, hc⟩
      · omega
      subst hv
      have hcv := convert_reads (W := wr) (b := b) (off := off) cap hc
      rw [hl8] at hcv
      clear hc hown HO hx8 hl8 hlt hk
      go_wp2
      go_ret
      exact ⟨rfl, more_of_below HB.out⟩
end Go.Proofs.YtcckbmmjklahfaaGreatDoor

namespace Go.Proofs.YtcckbmmjklahfaaGreatDoor
set_option linter.all false
open Go.RowKit
namespace As
/-- what holds between two lines -/
structure RSt (w0 wr : World) (xs : List Int) (k : Nat) (v : Value) : Prop where
  own : wr.ownsRow w0.heap.size 5 1 v (linesF (xs.take k)).length (bcell (linesF (xs.take k)))
  bel : Below w0.heap.size w0 wr
theorem bcell_next (l : List Int) (k : Nat) (h : k < l.length) (s : ByteArray) (hs : s.data.toList = lineX l[k]) : bcell (linesF (l.take (k + 1))) = bcell (linesF (l.take k)) ++ Lib.strCells s ++ [.int .u8 10] ∧ (linesF (l.take (k + 1))).length = (linesF (l.take k)).length + s.size + 1 := by
  rw [List.take_add_one, List.getElem?_eq_getElem h]
  simp only [Option.toList_some, linesF_snoc]
  have : (lineX l[k]).length = s.size := by rw [← hs]; simp
  refine ⟨?_, ?_⟩
  · simp [bcell, Lib.strCells, hs]
  · simp [this]; omega
theorem conv_own {W : World} {base : Nat} {v : Value} {l : List UInt8} (h : W.ownsRow base 5 1 v l.length (bcell l)) :
    (convert 57 9 v).run Tryz.prog W = .ok (.string ⟨l.toArray⟩) W := by
  rcases h.2 with ⟨rfl, h0⟩ | ⟨g, cap, cur, rfl, -, hg, hn, hm, -⟩
  · have : l = [] := List.length_eq_zero_iff.1 h0
    subst this
    exact run_convert_bytes_nil W 57 5 Tryz.underlying57 Tryz.underlying5 0 0 9 Tryz.underlying9
  · have hc := h.cells (g := g) rfl
    exact convert_reads cap (fun j u hu => by
      have h2 := hc j u hu
      unfold Addr.add at h2
      split at h2
      · rename_i h3; subst h3; simpa using h2
      · simpa using h2)
end As
set_option maxRecDepth 100000 in
set_option maxHeartbeats 12800000 in
theorem rLines_cells (xs : List Int) (n : Nat) (p : Option Addr) (c : Nat) (w : World) (hn : xs.length = n) (hmax : (n : Int) ≤ 100000) (hc : (n : Int) ≤ (c : Int))
    (HX : Hid (∀ k (h : k < xs.length), ∃ b off, p = some ⟨b, off, none⟩ ∧ b < w.heap.size ∧ w.cell? ⟨b, off + k, none⟩ = some (.int .u32 xs[k]))) (HB : Hid (∀ x ∈ xs, 0 ≤ x ∧ x < 4294967296)) :
    Calls Tryz.prog 12 #[.slice p n c] w fun e w' => e = .returned (.string ⟨(As.linesF xs).toArray⟩) ∧ ∃ g, w' = more w g := by
  obtain ⟨i0, hi, hz0, hz1, hz2⟩ := info_parts info_byte
  have HN := Lib.hid hn
  have HBx := HB
  clear hn HB
  go_enter Tryz.func12, Tryz.ntmps12
  go_wp2
  go_loopw [3, 4] (fun v i wr => ∃ k : Nat, k ≤ n ∧ i = .int .i64 k ∧ Hid (As.RSt w wr xs k v)) (fun _ i _ => n - (intOf i).toNat)
  case atStart => exact ⟨0, by omega, rfl, Lib.hid ⟨World.ownsRow_nil _ _ _ _, Below.refl _ _⟩⟩
  case round =>
    obtain ⟨k, hk, rfl, H⟩ := hrel
    have HB := Lib.hid H.out.bel
    have hsz := HB.out.size
    by_cases hlt : k < n
    · have hk1 : k < xs.length := by rw [HN.out]; exact hlt
      obtain ⟨b, off, rfl, hb, hcell⟩ := HX.out k hk1
      have hcell2 : wr.cell? ⟨b, off + k, none⟩ = some (.int .u32 xs[k]) := by
        rw [← hcell, HB.out.cell (p := ⟨b, off + k, none⟩) hb]
      have hbr : b < wr.heap.size := Nat.lt_of_lt_of_le hb hsz
      have hx := HBx.out _ (List.getElem_mem hk1)
      have hL1 : (As.linesF (xs.take k)).length ≤ 61 * k := by
        have := As.linesF_len (xs.take k)
        have h2 : (xs.take k).length ≤ k := by simp; omega
        omega
      have HNx := Lib.hid (fun s hs => As.bcell_next xs k hk1 s hs)
      have HRl := rline_is xs[k] hx.1 hx.2
      have HHx := Lib.hid (fun u => rhex8_any xs[k] hx.1 hx.2 u)
      have HO := Lib.hid H.out.own
      clear hcell H
      generalize xs[k] = x at *
      generalize As.linesF (xs.take k) = L at *
      have hL2 : (L.length : Int) ≤ 6100000 := by omega
      have k0 : (0 : Int) ≤ (k : Int) := by omega
      have k1 : (k : Int) < (n : Int) := by omega
      clear hL1 hx
      obtain ⟨t, c', hR, h⟩ := HRl
      replace hR := Lib.hid hR
      rcases h with ⟨hl, rfl, rfl⟩ | ⟨hl, rfl⟩
      · obtain ⟨D0, hD0⟩ : ∃ D : ByteArray, D = ⟨(As.hex8 x).toArray⟩ := ⟨_, rfl⟩
        obtain ⟨D, hD⟩ : ∃ D : ByteArray, (⟨#[35]⟩ : ByteArray) ++ D0 = D := ⟨_, rfl⟩
        have hDx : D.data.toList = As.lineX x := by rw [← hD, hD0]; unfold As.lineX; rw [hl]; simp [ByteArray.data_append]
        have hD60 : (D.size : Int) ≤ 60 := by
          have := As.lineX_len x
          rw [← hDx] at this
          simp at this
          omega
        have hD1 : D0.size + 1 = D.size := by rw [← hD]; simp [ByteArray.size_append]; rw [show (⟨#[35]⟩ : ByteArray).size = 1 from rfl]; omega
        have HN1 := Lib.hid (HNx.out D hDx).1
        have HN2 := Lib.hid (HNx.out D hDx).2
        rw [← hD0] at HHx
        clear hl hD0 hDx HNx
        go_wp2_with (first | (go_at_call 22; (with_reducible refine (hR.out _).mono ?_); rintro e w3 ⟨rfl, g3, rfl⟩) | (go_at_call 32; (with_reducible refine (HHx.out _).mono ?_); rintro e w4 ⟨rfl, g4, rfl⟩) | (at_builtin; go_loud (refine Lib.wpList_append_own_string _ rfl _ _ 57 9 rfl w.heap.size 5 i0 Tryz.underlying57 Tryz.underlying9 hi hz0 hz1 hz2 _ _ _ rfl (owns_kept' HO.out ?_) D rfl ?_ ?_ ?_ ?_; (focus (exact (by repeat' (first | (with_reducible exact Below.refl _ _) | (with_reducible assumption) | (with_reducible refine below_more ?_ ?_ _) | (with_reducible refine below_drewN ?_ _) | (with_reducible refine Below.drew ?_) | (with_reducible refine Below.alloc ?_ ?_ _) | (with_reducible refine Below.setCell ?_ ?_ _) | go_size | (simp [more_size]; done) | (simp [more_size]; omega))))); (focus (unfold maxLen; omega)); (focus omega); (focus (first | (simp [more_size]; omega) | omega)); intro v1 w1 hown1 hgrow1 hnn; have hsz1 := hgrow1.size; simp only [more_size] at hsz1; replace hown1 := Lib.hid hown1; replace hgrow1 := Lib.hid hgrow1)) | (at_builtin; refine wpList_append_reads rfl _ _ 57 rfl w.heap.size 5 i0 (.int .u8 0) 1 1 Tryz.underlying57 hi hz0 hz1 hz2 rfl (by decide) v1 (L.length + D.size) _ rfl (owns_kept' hown1.out ?_) _ 1 [.int .u8 10] rfl (reads_litq _ _ #[.int .u8 10] 5 1 1 (by decide) rfl ?_) ?_ ?_ ?_ ?_ ?_; (focus (exact (by repeat' (first | (with_reducible exact Below.refl _ _) | (with_reducible assumption) | (with_reducible refine below_more ?_ ?_ _) | (with_reducible refine below_drewN ?_ _) | (with_reducible refine Below.drew ?_) | (with_reducible refine Below.alloc ?_ ?_ _) | (with_reducible refine Below.setCell ?_ ?_ _) | go_size | (simp [more_size]; done) | (simp [more_size]; omega))))); (focus (simp; done)); (focus (intro q hq; simp at hq; subst hq; rfl)); (focus (unfold maxLen; omega)); (focus omega); (focus (first | (simp; omega) | omega)); intro v2 w2 hown2 hgrow2))
        have hB1 : Below w.heap.size w w1 := below_grown (by have q := HB.out; exact (by repeat' (first | (with_reducible exact Below.refl _ _) | (with_reducible assumption) | (with_reducible refine below_more ?_ ?_ _) | (with_reducible refine below_drewN ?_ _) | (with_reducible refine Below.drew ?_) | (with_reducible refine Below.alloc ?_ ?_ _) | (with_reducible refine Below.setCell ?_ ?_ _) | go_size | (simp [more_size]; done) | (simp [more_size]; omega)))) (by first | (simp [more_size]; omega) | omega) hgrow1.out (owns_rows HO.out)
        refine ⟨⟨k + 1, by omega, by go_num, Lib.hid ⟨?_, below_grown (hB1.alloc (by omega) _) (by first | (simp; omega) | omega) hgrow2 (owns_rows hown1.out)⟩⟩, by simp [intOf]; omega⟩
        rw [HN1.out, HN2.out]
        exact hown2
      · obtain ⟨D, hD⟩ : ∃ D : ByteArray, D = t := ⟨_, rfl⟩
        have hDx : D.data.toList = As.lineX x := by rw [hD]; unfold As.lineX; rw [hl]; rfl
        have hD60 : (D.size : Int) ≤ 60 := by
          have := As.lineX_len x
          rw [← hDx] at this
          simp at this
          omega
        have HN1 := Lib.hid (HNx.out D hDx).1
        have HN2 := Lib.hid (HNx.out D hDx).2
        rw [← hD] at hR
        clear hl hD hDx HNx HHx
        go_wp2_with (first | (go_at_call 22; (with_reducible refine (hR.out _).mono ?_); rintro e w3 ⟨rfl, g3, rfl⟩) | (at_builtin; go_loud (refine Lib.wpList_append_own_string _ rfl _ _ 57 9 rfl w.heap.size 5 i0 Tryz.underlying57 Tryz.underlying9 hi hz0 hz1 hz2 _ _ _ rfl (owns_kept' HO.out ?_) D rfl ?_ ?_ ?_ ?_; (focus (exact (by repeat' (first | (with_reducible exact Below.refl _ _) | (with_reducible assumption) | (with_reducible refine below_more ?_ ?_ _) | (with_reducible refine below_drewN ?_ _) | (with_reducible refine Below.drew ?_) | (with_reducible refine Below.alloc ?_ ?_ _) | (with_reducible refine Below.setCell ?_ ?_ _) | go_size | (simp [more_size]; done) | (simp [more_size]; omega))))); (focus (unfold maxLen; omega)); (focus omega); (focus (first | (simp [more_size]; omega) | omega)); intro v1 w1 hown1 hgrow1 hnn; have hsz1 := hgrow1.size; simp only [more_size] at hsz1; replace hown1 := Lib.hid hown1; replace hgrow1 := Lib.hid hgrow1)) | (at_builtin; refine wpList_append_reads rfl _ _ 57 rfl w.heap.size 5 i0 (.int .u8 0) 1 1 Tryz.underlying57 hi hz0 hz1 hz2 rfl (by decide) v1 (L.length + D.size) _ rfl (owns_kept' hown1.out ?_) _ 1 [.int .u8 10] rfl (reads_litq _ _ #[.int .u8 10] 5 1 1 (by decide) rfl ?_) ?_ ?_ ?_ ?_ ?_; (focus (exact (by repeat' (first | (with_reducible exact Below.refl _ _) | (with_reducible assumption) | (with_reducible refine below_more ?_ ?_ _) | (with_reducible refine below_drewN ?_ _) | (with_reducible refine Below.drew ?_) | (with_reducible refine Below.alloc ?_ ?_ _) | (with_reducible refine Below.setCell ?_ ?_ _) | go_size | (simp [more_size]; done) | (simp [more_size]; omega))))); (focus (simp; done)); (focus (intro q hq; simp at hq; subst hq; rfl)); (focus (unfold maxLen; omega)); (focus omega); (focus (first | (simp; omega) | omega)); intro v2 w2 hown2 hgrow2))
        have hB1 : Below w.heap.size w w1 := below_grown (by have q := HB.out; exact (by repeat' (first | (with_reducible exact Below.refl _ _) | (with_reducible assumption) | (with_reducible refine below_more ?_ ?_ _) | (with_reducible refine below_drewN ?_ _) | (with_reducible refine Below.drew ?_) | (with_reducible refine Below.alloc ?_ ?_ _) | (with_reducible refine Below.setCell ?_ ?_ _) | go_size | (simp [more_size]; done) | (simp [more_size]; omega)))) (by first | (simp [more_size]; omega) | omega) hgrow1.out (owns_rows HO.out)
        refine ⟨⟨k + 1, by omega, by go_num, Lib.hid ⟨?_, below_grown (hB1.alloc (by omega) _) (by first | (simp; omega) | omega) hgrow2 (owns_rows hown1.out)⟩⟩, by simp [intOf]; omega⟩
        rw [HN1.out, HN2.out]
        exact hown2
    · have hkn : k = n := by omega
      subst hkn
      have hown := H.out.own
      rw [List.take_of_length_le (Nat.le_of_eq HN.out)] at hown
      have hcv := As.conv_own hown
      clear hown H
      obtain ⟨R, hR⟩ : ∃ R, R = As.linesF xs := ⟨_, rfl⟩
      rw [← hR] at hcv
      have HRe := Lib.hid hR
      clear hR
      go_wp2
      go_ret
      exact ⟨by rw [← HRe.out]; rfl, more_of_below HB.out⟩
theorem rLines_any (xs : List Int) (v : Value) (w : World) (hmax : xs.length ≤ 100000) (hR : Reads w v xs.length 1 (As.wcells xs)) (hx : ∀ x ∈ xs, 0 ≤ x ∧ x < 4294967296) :
    Calls Tryz.prog 12 #[v] w fun e w' => e = .returned (.string ⟨(As.linesF xs).toArray⟩) ∧ ∃ g, w' = more w g := by
  rcases hR.2 with ⟨h0, b, c, rfl, _⟩ | ⟨b, off, c, rfl, hc, _, hb, hcell⟩
  · have : xs = [] := List.eq_nil_of_length_eq_zero h0
    subst this
    exact rLines_cells [] 0 b c w rfl (by omega) (by omega) (Lib.hid fun k h => by simp at h) (Lib.hid hx)
  · exact rLines_cells xs xs.length _ c w rfl (by omega) (by omega) (Lib.hid fun k h => ⟨b, off, rfl, hb, hcell k _ (As.wcells_at xs k h)⟩) (Lib.hid hx)
end Go.Proofs.YtcckbmmjklahfaaGreatDoor
