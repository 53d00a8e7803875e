/- The walk of asm's word: texts that are too long, names that are none. Conditions: the namer's record lies in the world with all its names; the library's variables are as they were laid. The walk of asm's word: a text of which an operand is none. Conditions: the namer's record lies in the world with all its names; the library's variables are as they were laid. The walk of asm's word: the number of operands is not the one that its shape asks for. Conditions: the namer's record lies in the world with all its names; the library's variables are as they were laid. -/
import Derived.Test.YtcckbmmjklahfaaDoorAsG
namespace Go.Proofs.YtcckbmmjklahfaaDoor
set_option linter.all false
open Go.RowKit
abbrev CutIs (s nm rs : ByteArray) (B : Bool) : Prop := ∀ w : World, Ga w → Calls Tryd.prog 38 #[.string s, .string ⟨#[32]⟩] w fun e w' => e = .returned (.tuple #[.string nm, .string rs, .bool B]) ∧ ∃ g, w' = more w g
abbrev SplitIs (rs : ByteArray) (ps : List ByteArray) : Prop := ∀ w : World, Ga w → Calls Tryd.prog 39 #[.string rs, .string ⟨#[44, 32]⟩] w fun e w' => e = .returned (.slice (some ⟨w.heap.size, 0, none⟩) ps.length ps.length) ∧ w' = w.alloc (.cells (ps.map Value.string).toArray 9)
abbrev OpYes (p : ByteArray) (x : Int × Bool) : Prop := ∀ w : World, Ga w → Calls Tryd.prog 40 #[.string p] w fun e w' => e = .returned (.tuple #[.int .i64 x.1, .bool x.2, .bool true]) ∧ ∃ g, w' = more w g
abbrev OpNo (p : ByteArray) : Prop := ∀ w : World, Ga w → Calls Tryd.prog 40 #[.string p] w fun e w' => (∃ v r, e = .returned (.tuple #[.int .i64 v, .bool r, .bool false])) ∧ ∃ g, w' = more w g
theorem info_int : (Tryd.prog.info? 3).map (fun i => (i.zero, i.size, i.bytes)) = some (some (.int .i64 0), 1, 8) := by kernel_rfl
set_option maxRecDepth 100000 in
set_option maxHeartbeats 1600000 in
theorem word_long (s : ByteArray) (w : World) (bN : Nat) (hs : 40 < s.size) :
    Calls Tryd.prog 25 #[.pointer (some ⟨bN, 0, none⟩), .string s] w fun e w' => e = .returned (.tuple #[.int .u32 0, .int .i64 60]) ∧ ∃ g, w' = more w g := by
  have h1 : (40 : Int) < (s.size : Int) := by omega
  go_enter Tryd.func25, Tryd.ntmps25
  go_wp2
  go_ret2
  exact ⟨rfl, more_refl _⟩
set_option maxRecDepth 100000 in
set_option maxHeartbeats 1600000 in
theorem word_noname (s nm rs : ByteArray) (B : Bool) (w : World) (bN : Nat) (hs : s.size ≤ 40) (HC : Hid (CutIs s nm rs B)) (HG : Hid (Ga w)) (hR : As.Rn w bN nm) :
    Calls Tryd.prog 25 #[.pointer (some ⟨bN, 0, none⟩), .string s] w fun e w' => e = .returned (.tuple #[.int .u32 0, .int .i64 60]) ∧ ∃ g, w' = more w g := by
  obtain ⟨b2, x1, x2, x3⟩ := hR
  have hlk : ∀ g, (Instr.lookup 42 (.map (some b2)) (.string nm) true).run Tryd.prog (more w g) = .ok (.tuple #[.int .i64 0, .bool false]) (more w g) := fun g => x3 _ (below_more (Below.refl _ _) (Nat.le_refl _) g)
  clear x3
  go_enter Tryd.func25, Tryd.ntmps25
  go_wp2_with (first | (go_at_call 38; (with_reducible refine (HC.out _ HG.out).mono ?_); rintro e w2 ⟨rfl, g, rfl⟩) | (at_lookup; refine wpList_map_look rfl _ _ 42 true rfl rfl rfl (hlk _) ?_))
  go_ret2
  exact ⟨rfl, more_of_below (by repeat' (first | (with_reducible exact Below.refl _ _) | (with_reducible assumption) | (with_reducible refine below_more ?_ ?_ _) | (with_reducible refine below_drewN ?_ _) | (with_reducible refine Below.drew ?_) | (with_reducible refine Below.alloc ?_ ?_ _) | (with_reducible refine Below.setCell ?_ ?_ _) | go_size | (simp [more_size]; done) | (simp [more_size]; omega)))⟩
end Go.Proofs.YtcckbmmjklahfaaDoor

namespace Go.Proofs.YtcckbmmjklahfaaDoor
set_option linter.all false
open Go.RowKit
set_option maxRecDepth 100000 in
set_option maxHeartbeats 3200000 in
theorem word_noop (s nm rs : ByteArray) (B : Bool) (S : As.Shape) (ps : List ByteArray) (O : List (Int × Bool)) (w : World) (bN : Nat) (hs : s.size ≤ 40) (hn : ps.length ≤ 60) (hO : O.length < ps.length)
    (HC : Hid (CutIs s nm rs B)) (HS : Hid (SplitIs rs ps)) (HY : Hid (∀ (k : Nat) (p : ByteArray) (x : Int × Bool), O[k]? = some x → ps[k]? = some p → OpYes p x)) (HN : Hid (∀ p : ByteArray, ps[O.length]? = some p → OpNo p)) (HG : Hid (Ga w)) (hR : As.Rw w bN nm S) :
    Calls Tryd.prog 25 #[.pointer (some ⟨bN, 0, none⟩), .string s] w fun e w' => e = .returned (.tuple #[.int .u32 0, .int .i64 60]) ∧ ∃ g, w' = more w g := by
  obtain ⟨b2, bsh, i, cap, x1, x2, x3, x4, x5, x6, x7, x8⟩ := hR
  obtain ⟨i0, hi, hz0, hz1, hz2⟩ := info_parts info_int
  have hi0 : (0 : Int) ≤ (i : Int) := by omega
  have hi1 : (i : Int) < 84 := by omega
  have s0 : w.cell? ⟨bsh, i * 4, none⟩ = some (.int .i64 S.1) := x7 0 _ rfl
  have s1 := x7 1 _ rfl
  have s2 := x7 2 _ rfl
  have s3 := x7 3 _ rfl
  have hlk : ∀ g, (Instr.lookup 42 (.map (some b2)) (.string nm) true).run Tryd.prog (more w g) = .ok (.tuple #[.int .i64 i, .bool true]) (more w g) := fun g => x8 _ (below_more (Below.refl _ _) (Nat.le_refl _) g)
  obtain ⟨k0, k1, k2, k3⟩ := S
  clear x7 x8
  go_enter Tryd.func25, Tryd.ntmps25
  go_wp2_with (first | (go_at_call 38; (with_reducible refine (HC.out _ HG.out).mono ?_); rintro e w2 ⟨rfl, g, rfl⟩) | (at_lookup; refine wpList_map_look rfl _ _ 42 true rfl rfl rfl (hlk _) ?_) | (go_at_call 39; (with_reducible refine (HS.out _ (HG.out.below (by repeat' (first | (with_reducible exact Below.refl _ _) | (with_reducible assumption) | (with_reducible refine below_more ?_ ?_ _) | (with_reducible refine below_drewN ?_ _) | (with_reducible refine Below.drew ?_) | (with_reducible refine Below.alloc ?_ ?_ _) | (with_reducible refine Below.setCell ?_ ?_ _) | go_size | (simp [more_size]; done) | (simp [more_size]; omega))))).mono ?_); rintro e w2 ⟨rfl, rfl⟩))
  rw [show decide ((40 : Int) < (s.size : Int)) = false from decide_eq_false (by omega)]
  obtain ⟨bk, hbk⟩ : ∃ bk, bk = w.heap.size + g.o.size := ⟨_, rfl⟩
  rw [← hbk]
  generalize hW0 : (more w g).alloc _ = W0
  have z0 : W0.heap.size = bk + 1 := by rw [← hW0, As.sz, more_size, hbk]
  have hk0 : W0.heap[bk]? = some (.cells #[.int .i64 k0, .int .i64 k1, .bool k2, .bool k3] 47 (0, 0)) := by rw [← hW0, hbk, ← more_size]; exact (MapKept.heap_alloc _ _).1
  have HB0 : Below w.heap.size w W0 := by rw [← hW0]; exact (by repeat' (first | (with_reducible exact Below.refl _ _) | (with_reducible assumption) | (with_reducible refine below_more ?_ ?_ _) | (with_reducible refine below_drewN ?_ _) | (with_reducible refine Below.drew ?_) | (with_reducible refine Below.alloc ?_ ?_ _) | (with_reducible refine Below.setCell ?_ ?_ _) | go_size | (simp [more_size]; done) | (simp [more_size]; omega)))
  clear hW0
  generalize hW1 : W0.alloc _ = W1
  have z1 : W1.heap.size = bk + 2 := by rw [← hW1, As.sz, z0]
  have HB1 : Below w.heap.size w W1 := by rw [← hW1]; exact HB0.alloc HB0.size _
  have hk1 : W1.heap[bk]? = some (.cells #[.int .i64 k0, .int .i64 k1, .bool k2, .bool k3] 47 (0, 0)) := by
    rw [← hW1]; exact ((MapKept.heap_alloc W0 _).2 _ (As.lt_of hk0)).trans hk0
  have hp1 : W1.heap[bk + 1]? = some (.cells (ps.map Value.string).toArray 9 (0, 0)) := by rw [← hW1, ← z0]; exact (MapKept.heap_alloc W0 _).1
  clear hk0 hW1 z0 HB0
  have hP : ∀ (j : Nat) (p : ByteArray), ps[j]? = some p → W1.cell? ⟨bk + 1, j, none⟩ = some (.string p) := fun j p h => As.marks_cell W1 _ _ _ hp1 j _ (by simp [h])
  have HP := Lib.hid hP
  have HGW := Lib.hid (HG.out.below HB1)
  have HB := Lib.hid HB1
  clear hp1 hP HB1
  have hbk1 : w.heap.size ≤ bk := by omega
  clear hbk
  obtain ⟨bz, hbz⟩ : ∃ bz, bz = bk + 2 := ⟨_, rfl⟩
  rw [← hbz] at z1
  have HZ := Lib.hid z1
  clear z1
  have HK := Lib.hid hk1
  clear hk1 hlk x2 x3 x4 x5 x6 s0 s1 s2 s3
  go_loopw [12, 13, 54] (fun v b i wr => ∃ (k : Nat) (bb : Bool), k ≤ O.length ∧ i = .int .i64 k ∧ b = .bool bb ∧ Hid (bb = As.lastF (O.take k)) ∧ Hid (wr.ownsRow bz 3 1 v k ((O.take k).map fun x => Value.int .i64 x.1)) ∧ Hid (Below bz W1 wr)) (fun _ _ i _ => ps.length - (intOf i).toNat)
  case atStart => exact ⟨0, false, by omega, rfl, rfl, Lib.hid rfl, Lib.hid (World.ownsRow_nil _ _ _ _), Lib.hid (Below.refl _ _)⟩
  case round =>
    obtain ⟨k, bb, hk, rfl, rfl, hbb, HO, HBr⟩ := hrel
    have hsz : bz ≤ wr.heap.size := by have := HBr.out.size; rw [HZ.out] at this; exact this
    by_cases hlt : k < O.length
    · obtain ⟨⟨xv, xb⟩, hx⟩ : ∃ x, O[k]? = some x := ⟨_, List.getElem?_eq_getElem hlt⟩
      obtain ⟨p, hp⟩ : ∃ p, ps[k]? = some p := ⟨_, List.getElem?_eq_getElem (by omega)⟩
      have HYk := Lib.hid (HY.out k p _ hx hp)
      have hcell := (HBr.out.cell (p := ⟨bk + 1, k, none⟩) (by show bk + 1 < bz; omega)).trans (HP.out k p hp)
      have HGr := Lib.hid (HGW.out.below (by rw [HZ.out]; exact HBr.out))
      have HT := Lib.hid (show O.take (k + 1) = O.take k ++ [(xv, xb)] by rw [List.take_succ, hx]; rfl)
      have hkl : (k : Int) < (ps.length : Int) := by omega
      have hps : (ps.length : Int) ≤ 60 := by omega
      clear hx hp
      go_wp2_with (first | (go_at_call 40; (with_reducible refine (HYk.out _ HGr.out).mono ?_); rintro e w3 ⟨rfl, g3, rfl⟩) | (at_builtin; go_loud ((refine wpList_append_reads rfl _ _ 75 rfl bz 3 i0 (.int .i64 0) 1 8 Tryd.underlying75 hi hz0 hz1 hz2 rfl (by decide) u12 k _ rfl (owns_kept' HO.out ?_) _ 1 [.int .i64 xv] rfl (reads_litq _ _ #[.int .i64 xv] 3 1 1 (by decide) rfl ?_) ?_ ?_ ?_ ?_ ?_; (focus (exact (by repeat' (first | (with_reducible exact Below.refl _ _) | (with_reducible assumption) | (with_reducible refine below_more ?_ ?_ _) | (with_reducible refine below_drewN ?_ _) | (with_reducible refine Below.drew ?_) | (with_reducible refine Below.alloc ?_ ?_ _) | (with_reducible refine Below.setCell ?_ ?_ _) | go_size | (simp [more_size]; done) | (simp [more_size]; omega))))); (focus (simp [more_size]; done)); (focus (intro q hq; simp at hq; subst hq; rfl)); (focus (unfold maxLen; omega)); (focus omega); (focus (simp [more_size]; omega)); intro v' w1 hown' hgrow))))
      go_roundw
      case rel => exact ⟨k + 1, xb, by omega, by go_num, rfl, Lib.hid (by rw [HT.out, As.lastF_snoc]), Lib.hid (by rw [HT.out, List.map_append]; exact hown'), Lib.hid (below_grown ((below_more HBr.out hsz g3).alloc (by rw [more_size]; omega) _) (by rw [As.sz, more_size]; omega) hgrow (owns_rows HO.out))⟩
      case measure => simp [intOf]; omega
    · have hk2 : k = O.length := by omega
      subst hk2
      obtain ⟨p, hp⟩ : ∃ p, ps[O.length]? = some p := ⟨_, List.getElem?_eq_getElem hO⟩
      have HNk := Lib.hid (HN.out p hp)
      have hcell := (HBr.out.cell (p := ⟨bk + 1, O.length, none⟩) (by show bk + 1 < bz; omega)).trans (HP.out _ p hp)
      have HGr := Lib.hid (HGW.out.below (by rw [HZ.out]; exact HBr.out))
      have hkl : (O.length : Int) < (ps.length : Int) := by omega
      have hps : (ps.length : Int) ≤ 60 := by omega
      clear hp hlt hk
      go_wp2_with (go_at_call 40; (with_reducible refine (HNk.out _ HGr.out).mono ?_); rintro e w3 ⟨⟨v, r, rfl⟩, g3, rfl⟩)
      go_ret2
      exact ⟨rfl, more_of_below (below_more (HB.out.trans (HBr.out.mono (by have := HZ.out; omega))) (by omega) _)⟩
end Go.Proofs.YtcckbmmjklahfaaDoor

namespace Go.Proofs.YtcckbmmjklahfaaDoor
set_option linter.all false
open Go.RowKit
theorem ne_bytes2 {x y : ByteArray} (h : x ≠ y) : (x.toList == y.toList) = false := by
  rw [beq_eq_false_iff_ne]
  intro e
  exact h (ByteArray.ext (Array.ext' (by simpa [ByteArray.toList_eq] using e)))
abbrev EncIs (x : As.Ins) (z c : Int) : Prop := ∀ w : World, Calls Tryd.prog 30 #[As.iv x] w fun e w' => e = .returned (.tuple #[.int .u32 z, .int .i64 c]) ∧ ∃ g, w' = more w g
abbrev LineIs (w : World) (bN : Nat) (z : Int) (t : ByteArray) (c : Int) : Prop := ∀ w' : World, Ga w' → Below w.heap.size w w' → Calls Tryd.prog 8 #[.pointer (some ⟨bN, 0, none⟩), .int .u32 z] w' fun e w2 => e = .returned (.tuple #[.string t, .int .i64 c]) ∧ ∃ g, w2 = more w' g
/-- the three ways to the end -/
def Ends (w : World) (bN : Nat) (s : ByteArray) (x : As.Ins) (Z C : Int) : Prop :=
  (EncIs x Z 0 ∧ LineIs w bN Z s 0 ∧ C = 0) ∨ (EncIs x 0 20 ∧ (∃ t c, LineIs w bN 0 t c) ∧ Z = 0 ∧ C = 60) ∨ (∃ z t, EncIs x z 0 ∧ LineIs w bN z t 0 ∧ t ≠ s ∧ Z = 0 ∧ C = 60)
set_option maxRecDepth 100000 in
set_option maxHeartbeats 6400000 in
theorem word_defJ (s nm rs : ByteArray) (B : Bool) (k0 k1 : Int) (k2 k3 : Bool) (ps : List ByteArray) (O : List (Int × Bool)) (w : World) (bN : Nat) (hs : s.size ≤ 40) (hn : ps.length ≤ 60) (hO : O.length = ps.length) (hk0 : Hid (k0 = 3)) (hl : O.length ≠ 1)
    (HC : Hid (CutIs s nm rs B)) (HS : Hid (SplitIs rs ps)) (HY : Hid (∀ (k : Nat) (p : ByteArray) (x : Int × Bool), (O)[k]? = some x → ps[k]? = some p → OpYes p x)) (HG : Hid (Ga w)) (hR : As.Rw w bN nm ((k0, k1, k2, k3))) :
    Calls Tryd.prog 25 #[.pointer (some ⟨bN, 0, none⟩), .string s] w fun e w' => e = .returned (.tuple #[.int .u32 0, .int .i64 60]) ∧ ∃ g, w' = more w g := by
  obtain ⟨b2, bsh, i, cap, x1, x2, x3, x4, x5, x6, x7, x8⟩ := hR
  obtain ⟨i0, hi, hz0, hz1, hz2⟩ := info_parts info_int
  have hi0 : (0 : Int) ≤ (i : Int) := by omega
  have hi1 : (i : Int) < 84 := by omega
  have s0 : w.cell? ⟨bsh, i * 4, none⟩ = some (.int .i64 k0) := x7 0 _ rfl
  have s1 := x7 1 _ rfl
  have s2 := x7 2 _ rfl
  have s3 := x7 3 _ rfl
  have hlk : ∀ g, (Instr.lookup 42 (.map (some b2)) (.string nm) true).run Tryd.prog (more w g) = .ok (.tuple #[.int .i64 i, .bool true]) (more w g) := fun g => x8 _ (below_more (Below.refl _ _) (Nat.le_refl _) g)
  clear x7 x8
  go_enter Tryd.func25, Tryd.ntmps25
  go_wp2_with (first | (go_at_call 38; (with_reducible refine (HC.out _ HG.out).mono ?_); rintro e w2 ⟨rfl, g, rfl⟩) | (at_lookup; refine wpList_map_look rfl _ _ 42 true rfl rfl rfl (hlk _) ?_) | (go_at_call 39; (with_reducible refine (HS.out _ (HG.out.below (by repeat' (first | (with_reducible exact Below.refl _ _) | (with_reducible assumption) | (with_reducible refine below_more ?_ ?_ _) | (with_reducible refine below_drewN ?_ _) | (with_reducible refine Below.drew ?_) | (with_reducible refine Below.alloc ?_ ?_ _) | (with_reducible refine Below.setCell ?_ ?_ _) | go_size | (simp [more_size]; done) | (simp [more_size]; omega))))).mono ?_); rintro e w2 ⟨rfl, rfl⟩))
  rw [show decide ((40 : Int) < (s.size : Int)) = false from decide_eq_false (by omega)]
  obtain ⟨bk, hbk⟩ : ∃ bk, bk = w.heap.size + g.o.size := ⟨_, rfl⟩
  rw [← hbk]
  generalize hW0 : (more w g).alloc _ = W0
  have z0 : W0.heap.size = bk + 1 := by rw [← hW0, As.sz, more_size, hbk]
  have hk0 : W0.heap[bk]? = some (.cells #[.int .i64 k0, .int .i64 k1, .bool k2, .bool k3] 47 (0, 0)) := by rw [← hW0, hbk, ← more_size]; exact (MapKept.heap_alloc _ _).1
  have HB0 : Below w.heap.size w W0 := by rw [← hW0]; exact (by repeat' (first | (with_reducible exact Below.refl _ _) | (with_reducible assumption) | (with_reducible refine below_more ?_ ?_ _) | (with_reducible refine below_drewN ?_ _) | (with_reducible refine Below.drew ?_) | (with_reducible refine Below.alloc ?_ ?_ _) | (with_reducible refine Below.setCell ?_ ?_ _) | go_size | (simp [more_size]; done) | (simp [more_size]; omega)))
  clear hW0
  generalize hW1 : W0.alloc _ = W1
  have z1 : W1.heap.size = bk + 2 := by rw [← hW1, As.sz, z0]
  have HB1 : Below w.heap.size w W1 := by rw [← hW1]; exact HB0.alloc HB0.size _
  have hk1 : W1.heap[bk]? = some (.cells #[.int .i64 k0, .int .i64 k1, .bool k2, .bool k3] 47 (0, 0)) := by
    rw [← hW1]; exact ((MapKept.heap_alloc W0 _).2 _ (As.lt_of hk0)).trans hk0
  have hp1 : W1.heap[bk + 1]? = some (.cells (ps.map Value.string).toArray 9 (0, 0)) := by rw [← hW1, ← z0]; exact (MapKept.heap_alloc W0 _).1
  clear hk0 hW1 z0 HB0
  have hP : ∀ (j : Nat) (p : ByteArray), ps[j]? = some p → W1.cell? ⟨bk + 1, j, none⟩ = some (.string p) := fun j p h => As.marks_cell W1 _ _ _ hp1 j _ (by simp [h])
  have HP := Lib.hid hP
  have HGW := Lib.hid (HG.out.below HB1)
  have HB := Lib.hid HB1
  clear hp1 hP HB1
  have hbk1 : w.heap.size ≤ bk := by omega
  clear hbk
  obtain ⟨bz, hbz⟩ : ∃ bz, bz = bk + 2 := ⟨_, rfl⟩
  rw [← hbz] at z1
  have HZ := Lib.hid z1
  clear z1
  have HK := Lib.hid hk1
  clear hk1 hlk x2 x3 x4 x5 x6 s0 s1 s2 s3
  go_loopw [12, 13, 54] (fun v b i wr => ∃ (k : Nat) (bb : Bool), k ≤ O.length ∧ i = .int .i64 k ∧ b = .bool bb ∧ Hid (bb = As.lastF (O.take k)) ∧ Hid (wr.ownsRow bz 3 1 v k ((O.take k).map fun x => Value.int .i64 x.1)) ∧ Hid (Below bz W1 wr)) (fun _ _ i _ => ps.length - (intOf i).toNat)
  case atStart => exact ⟨0, false, by omega, rfl, rfl, Lib.hid rfl, Lib.hid (World.ownsRow_nil _ _ _ _), Lib.hid (Below.refl _ _)⟩
  case round =>
    obtain ⟨k, bb, hk, rfl, rfl, hbb, HO, HBr⟩ := hrel
    have hsz : bz ≤ wr.heap.size := by have := HBr.out.size; rw [HZ.out] at this; exact this
    by_cases hlt : k < O.length
    · obtain ⟨⟨xv, xb⟩, hx⟩ : ∃ x, O[k]? = some x := ⟨_, List.getElem?_eq_getElem hlt⟩
      obtain ⟨p, hp⟩ : ∃ p, ps[k]? = some p := ⟨_, List.getElem?_eq_getElem (by omega)⟩
      have HYk := Lib.hid (HY.out k p _ hx hp)
      have hcell := (HBr.out.cell (p := ⟨bk + 1, k, none⟩) (by show bk + 1 < bz; omega)).trans (HP.out k p hp)
      have HGr := Lib.hid (HGW.out.below (by rw [HZ.out]; exact HBr.out))
      have HT := Lib.hid (show O.take (k + 1) = O.take k ++ [(xv, xb)] by rw [List.take_succ, hx]; rfl)
      have hkl : (k : Int) < (ps.length : Int) := by omega
      have hps : (ps.length : Int) ≤ 60 := by omega
      clear hx hp
      go_wp2_with (first | (go_at_call 40; (with_reducible refine (HYk.out _ HGr.out).mono ?_); rintro e w3 ⟨rfl, g3, rfl⟩) | (at_builtin; go_loud ((refine wpList_append_reads rfl _ _ 75 rfl bz 3 i0 (.int .i64 0) 1 8 Tryd.underlying75 hi hz0 hz1 hz2 rfl (by decide) u12 k _ rfl (owns_kept' HO.out ?_) _ 1 [.int .i64 xv] rfl (reads_litq _ _ #[.int .i64 xv] 3 1 1 (by decide) rfl ?_) ?_ ?_ ?_ ?_ ?_; (focus (exact (by repeat' (first | (with_reducible exact Below.refl _ _) | (with_reducible assumption) | (with_reducible refine below_more ?_ ?_ _) | (with_reducible refine below_drewN ?_ _) | (with_reducible refine Below.drew ?_) | (with_reducible refine Below.alloc ?_ ?_ _) | (with_reducible refine Below.setCell ?_ ?_ _) | go_size | (simp [more_size]; done) | (simp [more_size]; omega))))); (focus (simp [more_size]; done)); (focus (intro q hq; simp at hq; subst hq; rfl)); (focus (unfold maxLen; omega)); (focus omega); (focus (simp [more_size]; omega)); intro v' w1 hown' hgrow))))
      go_roundw
      case rel => exact ⟨k + 1, xb, by omega, by go_num, rfl, Lib.hid (by rw [HT.out, As.lastF_snoc]), Lib.hid (by rw [HT.out, List.map_append]; exact hown'), Lib.hid (below_grown ((below_more HBr.out hsz g3).alloc (by rw [more_size]; omega) _) (by rw [As.sz, more_size]; omega) hgrow (owns_rows HO.out))⟩
      case measure => simp [intOf]; omega
    · have hk2 : k = O.length := by omega
      subst hk2
      have HBW := Lib.hid (show Below w.heap.size w wr from HB.out.trans (HBr.out.mono (by have := HZ.out; omega)))
      have HGr := Lib.hid (HG.out.below HBW.out)
      have hbkr : bk < wr.heap.size := by omega
      have hk1 : wr.heap[bk]? = some (.cells #[.int .i64 k0, .int .i64 k1, .bool k2, .bool k3] 47 (0, 0)) := (HBr.out.block bk (by omega)).trans HK.out
      have c0 := As.marks_cell wr bk _ _ hk1 0 _ rfl
      have c1 := As.marks_cell wr bk _ _ hk1 1 _ rfl
      have c2 := As.marks_cell wr bk _ _ hk1 2 _ rfl
      have c3 := As.marks_cell wr bk _ _ hk1 3 _ rfl
      have hlen : ps.length = O.length := hO.symm
      clear hk1 hlt hk HK hbk1 HP HB HBr HZ
      have hk03 := hk0.out
      clear hk0
      subst hk03
      have t1 : ((O.length : Int) == 1) = false := by simp; omega
      obtain ⟨a, cc, hv⟩ := As.owns_form HO.out
      subst hv
      rw [hlen]
      clear hlen hO hl HO
      go_wp2
      go_ret2
      have hws := HBW.out.size
      exact ⟨rfl, more_of_below (HBW.out.trans (by exact (by repeat' (first | (with_reducible exact Below.refl _ _) | (with_reducible assumption) | (with_reducible refine below_more ?_ ?_ _) | (with_reducible refine below_drewN ?_ _) | (with_reducible refine Below.drew ?_) | (with_reducible refine Below.alloc ?_ ?_ _) | (with_reducible refine Below.setCell ?_ ?_ _) | go_size | (simp [more_size]; done) | (simp [more_size]; omega)))))⟩
set_option maxRecDepth 100000 in
set_option maxHeartbeats 6400000 in
theorem word_defM (s nm rs : ByteArray) (B : Bool) (k0 k1 : Int) (k2 k3 : Bool) (ps : List ByteArray) (O : List (Int × Bool)) (w : World) (bN : Nat) (hs : s.size ≤ 40) (hn : ps.length ≤ 60) (hO : O.length = ps.length) (hk0 : k0 ≠ 3) (hl : O.length ≠ 3)
    (HC : Hid (CutIs s nm rs B)) (HS : Hid (SplitIs rs ps)) (HY : Hid (∀ (k : Nat) (p : ByteArray) (x : Int × Bool), (O)[k]? = some x → ps[k]? = some p → OpYes p x)) (HG : Hid (Ga w)) (hR : As.Rw w bN nm ((k0, k1, k2, k3))) :
    Calls Tryd.prog 25 #[.pointer (some ⟨bN, 0, none⟩), .string s] w fun e w' => e = .returned (.tuple #[.int .u32 0, .int .i64 60]) ∧ ∃ g, w' = more w g := by
  obtain ⟨b2, bsh, i, cap, x1, x2, x3, x4, x5, x6, x7, x8⟩ := hR
  obtain ⟨i0, hi, hz0, hz1, hz2⟩ := info_parts info_int
  have hi0 : (0 : Int) ≤ (i : Int) := by omega
  have hi1 : (i : Int) < 84 := by omega
  have s0 : w.cell? ⟨bsh, i * 4, none⟩ = some (.int .i64 k0) := x7 0 _ rfl
  have s1 := x7 1 _ rfl
  have s2 := x7 2 _ rfl
  have s3 := x7 3 _ rfl
  have hlk : ∀ g, (Instr.lookup 42 (.map (some b2)) (.string nm) true).run Tryd.prog (more w g) = .ok (.tuple #[.int .i64 i, .bool true]) (more w g) := fun g => x8 _ (below_more (Below.refl _ _) (Nat.le_refl _) g)
  clear x7 x8
  go_enter Tryd.func25, Tryd.ntmps25
  go_wp2_with (first | (go_at_call 38; (with_reducible refine (HC.out _ HG.out).mono ?_); rintro e w2 ⟨rfl, g, rfl⟩) | (at_lookup; refine wpList_map_look rfl _ _ 42 true rfl rfl rfl (hlk _) ?_) | (go_at_call 39; (with_reducible refine (HS.out _ (HG.out.below (by repeat' (first | (with_reducible exact Below.refl _ _) | (with_reducible assumption) | (with_reducible refine below_more ?_ ?_ _) | (with_reducible refine below_drewN ?_ _) | (with_reducible refine Below.drew ?_) | (with_reducible refine Below.alloc ?_ ?_ _) | (with_reducible refine Below.setCell ?_ ?_ _) | go_size | (simp [more_size]; done) | (simp [more_size]; omega))))).mono ?_); rintro e w2 ⟨rfl, rfl⟩))
  rw [show decide ((40 : Int) < (s.size : Int)) = false from decide_eq_false (by omega)]
  obtain ⟨bk, hbk⟩ : ∃ bk, bk = w.heap.size + g.o.size := ⟨_, rfl⟩
  rw [← hbk]
  generalize hW0 : (more w g).alloc _ = W0
  have z0 : W0.heap.size = bk + 1 := by rw [← hW0, As.sz, more_size, hbk]
  have hk0 : W0.heap[bk]? = some (.cells #[.int .i64 k0, .int .i64 k1, .bool k2, .bool k3] 47 (0, 0)) := by rw [← hW0, hbk, ← more_size]; exact (MapKept.heap_alloc _ _).1
  have HB0 : Below w.heap.size w W0 := by rw [← hW0]; exact (by repeat' (first | (with_reducible exact Below.refl _ _) | (with_reducible assumption) | (with_reducible refine below_more ?_ ?_ _) | (with_reducible refine below_drewN ?_ _) | (with_reducible refine Below.drew ?_) | (with_reducible refine Below.alloc ?_ ?_ _) | (with_reducible refine Below.setCell ?_ ?_ _) | go_size | (simp [more_size]; done) | (simp [more_size]; omega)))
  clear hW0
  generalize hW1 : W0.alloc _ = W1
  have z1 : W1.heap.size = bk + 2 := by rw [← hW1, As.sz, z0]
  have HB1 : Below w.heap.size w W1 := by rw [← hW1]; exact HB0.alloc HB0.size _
  have hk1 : W1.heap[bk]? = some (.cells #[.int .i64 k0, .int .i64 k1, .bool k2, .bool k3] 47 (0, 0)) := by
    rw [← hW1]; exact ((MapKept.heap_alloc W0 _).2 _ (As.lt_of hk0)).trans hk0
  have hp1 : W1.heap[bk + 1]? = some (.cells (ps.map Value.string).toArray 9 (0, 0)) := by rw [← hW1, ← z0]; exact (MapKept.heap_alloc W0 _).1
  clear hk0 hW1 z0 HB0
  have hP : ∀ (j : Nat) (p : ByteArray), ps[j]? = some p → W1.cell? ⟨bk + 1, j, none⟩ = some (.string p) := fun j p h => As.marks_cell W1 _ _ _ hp1 j _ (by simp [h])
  have HP := Lib.hid hP
  have HGW := Lib.hid (HG.out.below HB1)
  have HB := Lib.hid HB1
  clear hp1 hP HB1
  have hbk1 : w.heap.size ≤ bk := by omega
  clear hbk
  obtain ⟨bz, hbz⟩ : ∃ bz, bz = bk + 2 := ⟨_, rfl⟩
  rw [← hbz] at z1
  have HZ := Lib.hid z1
  clear z1
  have HK := Lib.hid hk1
  clear hk1 hlk x2 x3 x4 x5 x6 s0 s1 s2 s3
  go_loopw [12, 13, 54] (fun v b i wr => ∃ (k : Nat) (bb : Bool), k ≤ O.length ∧ i = .int .i64 k ∧ b = .bool bb ∧ Hid (bb = As.lastF (O.take k)) ∧ Hid (wr.ownsRow bz 3 1 v k ((O.take k).map fun x => Value.int .i64 x.1)) ∧ Hid (Below bz W1 wr)) (fun _ _ i _ => ps.length - (intOf i).toNat)
  case atStart => exact ⟨0, false, by omega, rfl, rfl, Lib.hid rfl, Lib.hid (World.ownsRow_nil _ _ _ _), Lib.hid (Below.refl _ _)⟩
  case round =>
    obtain ⟨k, bb, hk, rfl, rfl, hbb, HO, HBr⟩ := hrel
    have hsz : bz ≤ wr.heap.size := by have := HBr.out.size; rw [HZ.out] at this; exact this
    by_cases hlt : k < O.length
    · obtain ⟨⟨xv, xb⟩, hx⟩ : ∃ x, O[k]? = some x := ⟨_, List.getElem?_eq_getElem hlt⟩
      obtain ⟨p, hp⟩ : ∃ p, ps[k]? = some p := ⟨_, List.getElem?_eq_getElem (by omega)⟩
      have HYk := Lib.hid (HY.out k p _ hx hp)
      have hcell := (HBr.out.cell (p := ⟨bk + 1, k, none⟩) (by show bk + 1 < bz; omega)).trans (HP.out k p hp)
      have HGr := Lib.hid (HGW.out.below (by rw [HZ.out]; exact HBr.out))
      have HT := Lib.hid (show O.take (k + 1) = O.take k ++ [(xv, xb)] by rw [List.take_succ, hx]; rfl)
      have hkl : (k : Int) < (ps.length : Int) := by omega
      have hps : (ps.length : Int) ≤ 60 := by omega
      clear hx hp
      go_wp2_with (first | (go_at_call 40; (with_reducible refine (HYk.out _ HGr.out).mono ?_); rintro e w3 ⟨rfl, g3, rfl⟩) | (at_builtin; go_loud ((refine wpList_append_reads rfl _ _ 75 rfl bz 3 i0 (.int .i64 0) 1 8 Tryd.underlying75 hi hz0 hz1 hz2 rfl (by decide) u12 k _ rfl (owns_kept' HO.out ?_) _ 1 [.int .i64 xv] rfl (reads_litq _ _ #[.int .i64 xv] 3 1 1 (by decide) rfl ?_) ?_ ?_ ?_ ?_ ?_; (focus (exact (by repeat' (first | (with_reducible exact Below.refl _ _) | (with_reducible assumption) | (with_reducible refine below_more ?_ ?_ _) | (with_reducible refine below_drewN ?_ _) | (with_reducible refine Below.drew ?_) | (with_reducible refine Below.alloc ?_ ?_ _) | (with_reducible refine Below.setCell ?_ ?_ _) | go_size | (simp [more_size]; done) | (simp [more_size]; omega))))); (focus (simp [more_size]; done)); (focus (intro q hq; simp at hq; subst hq; rfl)); (focus (unfold maxLen; omega)); (focus omega); (focus (simp [more_size]; omega)); intro v' w1 hown' hgrow))))
      go_roundw
      case rel => exact ⟨k + 1, xb, by omega, by go_num, rfl, Lib.hid (by rw [HT.out, As.lastF_snoc]), Lib.hid (by rw [HT.out, List.map_append]; exact hown'), Lib.hid (below_grown ((below_more HBr.out hsz g3).alloc (by rw [more_size]; omega) _) (by rw [As.sz, more_size]; omega) hgrow (owns_rows HO.out))⟩
      case measure => simp [intOf]; omega
    · have hk2 : k = O.length := by omega
      subst hk2
      have HBW := Lib.hid (show Below w.heap.size w wr from HB.out.trans (HBr.out.mono (by have := HZ.out; omega)))
      have HGr := Lib.hid (HG.out.below HBW.out)
      have hbkr : bk < wr.heap.size := by omega
      have hk1 : wr.heap[bk]? = some (.cells #[.int .i64 k0, .int .i64 k1, .bool k2, .bool k3] 47 (0, 0)) := (HBr.out.block bk (by omega)).trans HK.out
      have c0 := As.marks_cell wr bk _ _ hk1 0 _ rfl
      have c1 := As.marks_cell wr bk _ _ hk1 1 _ rfl
      have c2 := As.marks_cell wr bk _ _ hk1 2 _ rfl
      have c3 := As.marks_cell wr bk _ _ hk1 3 _ rfl
      have hlen : ps.length = O.length := hO.symm
      clear hk1 hlt hk HK hbk1 HP HB HBr HZ
      have t0 : (k0 == 3) = false := by simpa using hk0
      have t00 : (k0 != 3) = true := by simpa using hk0
      have t1 : ((O.length : Int) == 3) = false := by simp; omega
      clear hk0
      obtain ⟨a, cc, hv⟩ := As.owns_form HO.out
      subst hv
      rw [hlen]
      clear hlen hO hl HO
      go_wp2
      go_ret2
      have hws := HBW.out.size
      exact ⟨rfl, more_of_below (HBW.out.trans (by exact (by repeat' (first | (with_reducible exact Below.refl _ _) | (with_reducible assumption) | (with_reducible refine below_more ?_ ?_ _) | (with_reducible refine below_drewN ?_ _) | (with_reducible refine Below.drew ?_) | (with_reducible refine Below.alloc ?_ ?_ _) | (with_reducible refine Below.setCell ?_ ?_ _) | go_size | (simp [more_size]; done) | (simp [more_size]; omega)))))⟩
end Go.Proofs.YtcckbmmjklahfaaDoor
