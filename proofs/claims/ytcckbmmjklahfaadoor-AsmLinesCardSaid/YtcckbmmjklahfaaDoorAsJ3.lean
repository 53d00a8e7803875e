/- The walk of asm's word: the way of shape 3, its last operand a register. Conditions: the namer's record lies in the world with all its names; the library's variables are as they were laid. The walk of asm's word: the way of shape 3, its last operand a number. Conditions: the namer's record lies in the world with all its names; the library's variables are as they were laid. -/
import Derived.Test.YtcckbmmjklahfaaDoorAsI
namespace Go.Proofs.YtcckbmmjklahfaaDoor
set_option linter.all false
open Go.RowKit
set_option maxRecDepth 100000 in
set_option maxHeartbeats 6400000 in
theorem word_w3t (s nm rs : ByteArray) (B : Bool) (k1 : Int) (k3 : Bool) (n : Int) (ps : List ByteArray)  (w : World) (bN : Nat) (hs : s.size ≤ 40) (hn : ps.length ≤ 60) (Z C : Int) (hO : 1 ≤ ps.length) (hO2 : ps.length ≤ 1) (HE : Hid (Ends w bN s ⟨3, false, k3, k1, 0, n, 0, 0⟩ Z C)) 
    (HC : Hid (CutIs s nm rs B)) (HS : Hid (SplitIs rs ps)) (HY : Hid (∀ (k : Nat) (p : ByteArray) (x : Int × Bool), ([(n, true)])[k]? = some x → ps[k]? = some p → OpYes p x)) (HG : Hid (Ga w)) (hR : As.Rw w bN nm ((3, k1, false, k3))) :
    Calls Tryd.prog 25 #[.pointer (some ⟨bN, 0, none⟩), .string s] w fun e w' => e = .returned (.tuple #[.int .u32 Z, .int .i64 C]) ∧ ∃ g, w' = more w g := by
  obtain ⟨b2, bsh, i, cap, x1, x2, x3, x4, x5, x6, x7, x8⟩ := hR
  obtain ⟨i0, hi, hz0, hz1, hz2⟩ := info_parts info_int
  have hi0 : (0 : Int) ≤ (i : Int) := by omega
  have hi1 : (i : Int) < 84 := by omega
  have s0 : w.cell? ⟨bsh, i * 4, none⟩ = some (.int .i64 3) := x7 0 _ rfl
  have s1 := x7 1 _ rfl
  have s2 := x7 2 _ rfl
  have s3 := x7 3 _ rfl
  have hlk : ∀ g, (Instr.lookup 42 (.map (some b2)) (.string nm) true).run Tryd.prog (more w g) = .ok (.tuple #[.int .i64 i, .bool true]) (more w g) := fun g => x8 _ (below_more (Below.refl _ _) (Nat.le_refl _) g)
  clear x7 x8
  go_enter Tryd.func25, Tryd.ntmps25
  go_wp2_with (first | (go_at_call 38; (with_reducible refine (HC.out _ HG.out).mono ?_); rintro e w2 ⟨rfl, g, rfl⟩) | (at_lookup; refine wpList_map_look rfl _ _ 42 true rfl rfl rfl (hlk _) ?_) | (go_at_call 39; (with_reducible refine (HS.out _ (HG.out.below (by repeat' (first | (with_reducible exact Below.refl _ _) | (with_reducible assumption) | (with_reducible refine below_more ?_ ?_ _) | (with_reducible refine below_drewN ?_ _) | (with_reducible refine Below.drew ?_) | (with_reducible refine Below.alloc ?_ ?_ _) | (with_reducible refine Below.setCell ?_ ?_ _) | go_size | (simp [more_size]; done) | (simp [more_size]; omega))))).mono ?_); rintro e w2 ⟨rfl, rfl⟩))
  rw [show decide ((40 : Int) < (s.size : Int)) = false from decide_eq_false (by omega)]
  obtain ⟨bk, hbk⟩ : ∃ bk, bk = w.heap.size + g.o.size := ⟨_, rfl⟩
  rw [← hbk]
  generalize hW0 : (more w g).alloc _ = W0
  have z0 : W0.heap.size = bk + 1 := by rw [← hW0, As.sz, more_size, hbk]
  have hk0 : W0.heap[bk]? = some (.cells #[.int .i64 3, .int .i64 k1, .bool false, .bool k3] 47 (0, 0)) := by rw [← hW0, hbk, ← more_size]; exact (MapKept.heap_alloc _ _).1
  have HB0 : Below w.heap.size w W0 := by rw [← hW0]; exact (by repeat' (first | (with_reducible exact Below.refl _ _) | (with_reducible assumption) | (with_reducible refine below_more ?_ ?_ _) | (with_reducible refine below_drewN ?_ _) | (with_reducible refine Below.drew ?_) | (with_reducible refine Below.alloc ?_ ?_ _) | (with_reducible refine Below.setCell ?_ ?_ _) | go_size | (simp [more_size]; done) | (simp [more_size]; omega)))
  clear hW0
  generalize hW1 : W0.alloc _ = W1
  have z1 : W1.heap.size = bk + 2 := by rw [← hW1, As.sz, z0]
  have HB1 : Below w.heap.size w W1 := by rw [← hW1]; exact HB0.alloc HB0.size _
  have hk1 : W1.heap[bk]? = some (.cells #[.int .i64 3, .int .i64 k1, .bool false, .bool k3] 47 (0, 0)) := by
    rw [← hW1]; exact ((MapKept.heap_alloc W0 _).2 _ (As.lt_of hk0)).trans hk0
  have hp1 : W1.heap[bk + 1]? = some (.cells (ps.map Value.string).toArray 9 (0, 0)) := by rw [← hW1, ← z0]; exact (MapKept.heap_alloc W0 _).1
  clear hk0 hW1 z0 HB0
  have hP : ∀ (j : Nat) (p : ByteArray), ps[j]? = some p → W1.cell? ⟨bk + 1, j, none⟩ = some (.string p) := fun j p h => As.marks_cell W1 _ _ _ hp1 j _ (by simp [h])
  have HP := Lib.hid hP
  have HGW := Lib.hid (HG.out.below HB1)
  have HB := Lib.hid HB1
  clear hp1 hP HB1
  have hbk1 : w.heap.size ≤ bk := by omega
  clear hbk
  obtain ⟨bz, hbz⟩ : ∃ bz, bz = bk + 2 := ⟨_, rfl⟩
  rw [← hbz] at z1
  have HZ := Lib.hid z1
  clear z1
  have HK := Lib.hid hk1
  clear hk1 hlk x2 x3 x4 x5 x6 s0 s1 s2 s3
  go_loopw [12, 13, 54] (fun v b i wr => ∃ (k : Nat) (bb : Bool), k ≤ 1 ∧ i = .int .i64 k ∧ b = .bool bb ∧ Hid (bb = As.lastF (([(n, true)] : List (Int × Bool)).take k)) ∧ Hid (wr.ownsRow bz 3 1 v k ((([(n, true)] : List (Int × Bool)).take k).map fun x => Value.int .i64 x.1)) ∧ Hid (Below bz W1 wr)) (fun _ _ i _ => ps.length - (intOf i).toNat)
  case atStart => exact ⟨0, false, by omega, rfl, rfl, Lib.hid rfl, Lib.hid (World.ownsRow_nil _ _ _ _), Lib.hid (Below.refl _ _)⟩
  case round =>
    obtain ⟨k, bb, hk, rfl, rfl, hbb, HO, HBr⟩ := hrel
    have hsz : bz ≤ wr.heap.size := by have := HBr.out.size; rw [HZ.out] at this; exact this
    by_cases hlt : k < 1
    · obtain ⟨⟨xv, xb⟩, hx⟩ : ∃ x, ([(n, true)] : List (Int × Bool))[k]? = some x := ⟨_, List.getElem?_eq_getElem (by simpa using hlt)⟩
      obtain ⟨p, hp⟩ : ∃ p, ps[k]? = some p := ⟨_, List.getElem?_eq_getElem (by omega)⟩
      have HYk := Lib.hid (HY.out k p _ hx hp)
      have hcell := (HBr.out.cell (p := ⟨bk + 1, k, none⟩) (by show bk + 1 < bz; omega)).trans (HP.out k p hp)
      have HGr := Lib.hid (HGW.out.below (by rw [HZ.out]; exact HBr.out))
      have HT := Lib.hid (show ([(n, true)] : List (Int × Bool)).take (k + 1) = ([(n, true)] : List (Int × Bool)).take k ++ [(xv, xb)] by rw [List.take_succ, hx]; rfl)
      have hkl : (k : Int) < (ps.length : Int) := by omega
      have hps : (ps.length : Int) ≤ 60 := by omega
      clear hx hp
      go_wp2_with (first | (go_at_call 40; (with_reducible refine (HYk.out _ HGr.out).mono ?_); rintro e w3 ⟨rfl, g3, rfl⟩) | (at_builtin; go_loud ((refine wpList_append_reads rfl _ _ 75 rfl bz 3 i0 (.int .i64 0) 1 8 Tryd.underlying75 hi hz0 hz1 hz2 rfl (by decide) u12 k _ rfl (owns_kept' HO.out ?_) _ 1 [.int .i64 xv] rfl (reads_litq _ _ #[.int .i64 xv] 3 1 1 (by decide) rfl ?_) ?_ ?_ ?_ ?_ ?_; (focus (exact (by repeat' (first | (with_reducible exact Below.refl _ _) | (with_reducible assumption) | (with_reducible refine below_more ?_ ?_ _) | (with_reducible refine below_drewN ?_ _) | (with_reducible refine Below.drew ?_) | (with_reducible refine Below.alloc ?_ ?_ _) | (with_reducible refine Below.setCell ?_ ?_ _) | go_size | (simp [more_size]; done) | (simp [more_size]; omega))))); (focus (simp [more_size]; done)); (focus (intro q hq; simp at hq; subst hq; rfl)); (focus (unfold maxLen; omega)); (focus omega); (focus (simp [more_size]; omega)); intro v' w1 hown' hgrow))))
      go_roundw
      case rel => exact ⟨k + 1, xb, by omega, by go_num, rfl, Lib.hid (by rw [HT.out, As.lastF_snoc]), Lib.hid (by rw [HT.out, List.map_append]; exact hown'), Lib.hid (below_grown ((below_more HBr.out hsz g3).alloc (by rw [more_size]; omega) _) (by rw [As.sz, more_size]; omega) hgrow (owns_rows HO.out))⟩
      case measure => simp [intOf]; omega
    · have hk2 : k = 1 := by omega
      subst hk2
      have HBW := Lib.hid (show Below w.heap.size w wr from HB.out.trans (HBr.out.mono (by have := HZ.out; omega)))
      have HGr := Lib.hid (HG.out.below HBW.out)
      have hbkr : bk < wr.heap.size := by omega
      have hk1 : wr.heap[bk]? = some (.cells #[.int .i64 3, .int .i64 k1, .bool false, .bool k3] 47 (0, 0)) := (HBr.out.block bk (by omega)).trans HK.out
      have c0 := As.marks_cell wr bk _ _ hk1 0 _ rfl
      have c1 := As.marks_cell wr bk _ _ hk1 1 _ rfl
      have c2 := As.marks_cell wr bk _ _ hk1 2 _ rfl
      have c3 := As.marks_cell wr bk _ _ hk1 3 _ rfl
      have hlen : ps.length = 1 := by omega
      have hbb2 : bb = true := by rw [hbb.out]; rfl
      subst hbb2
      have hown := HO.out
      simp only [List.take_succ_cons, List.take_zero, List.take_nil, List.map_cons, List.map_nil] at hown
      rcases (Reads.of_owns hown).2 with ⟨h0, _⟩ | ⟨gb, go, gc, hb, hnc, _, hlt2, hcc⟩
      · omega
      subst hb
      have d0 : wr.cell? ⟨gb, go, none⟩ = some (.int .i64 n) := hcc 0 _ rfl
      have hnc0 : (1 : Int) ≤ (gc : Int) := by omega
      have hgo := (by have := go; exact trivial : True)
      clear hk1 hlt hk HK hbk1 HP HB HBr HZ hcc hown HO hbb hgo
      rw [hlen]
      clear hlen hO hO2
      have hws := HBW.out.size
      rcases HE.out with ⟨hE, hL, rfl⟩ | ⟨hE, ⟨t, c, hL⟩, rfl, rfl⟩ | ⟨z, t, hE, hL, hne, rfl, rfl⟩
      all_goals
        replace hE := Lib.hid (show (∀ w : World, Calls Tryd.prog 30 #[.agg #[.int .i64 3, .bool false, .bool k3, .int .i64 k1, .int .i64 0, .int .i64 n, .int .i64 0, .int .i64 0]] w fun e w' => e = .returned (.tuple #[.int .u32 _, .int .i64 _]) ∧ ∃ g, w' = more w g) from hE)
        replace hL := Lib.hid hL
        clear HE
      ·
        go_wp2_with (first | (go_at_call 30; (with_reducible refine (hE.out _).mono ?_); rintro e w2 ⟨rfl, g5, rfl⟩) | (go_at_call 8; (with_reducible refine (hL.out _ (HGr.out.below (by repeat' (first | (with_reducible exact Below.refl _ _) | (with_reducible assumption) | (with_reducible refine below_more ?_ ?_ _) | (with_reducible refine below_drewN ?_ _) | (with_reducible refine Below.drew ?_) | (with_reducible refine Below.alloc ?_ ?_ _) | (with_reducible refine Below.setCell ?_ ?_ _) | go_size | (simp [more_size]; done) | (simp [more_size]; omega)))) (HBW.out.trans (by repeat' (first | (with_reducible exact Below.refl _ _) | (with_reducible assumption) | (with_reducible refine below_more ?_ ?_ _) | (with_reducible refine below_drewN ?_ _) | (with_reducible refine Below.drew ?_) | (with_reducible refine Below.alloc ?_ ?_ _) | (with_reducible refine Below.setCell ?_ ?_ _) | go_size | (simp [more_size]; done) | (simp [more_size]; omega))))).mono ?_); rintro e w2 ⟨rfl, g6, rfl⟩))
        all_goals go_ret2
        all_goals exact ⟨rfl, more_of_below (HBW.out.trans (by exact (by repeat' (first | (with_reducible exact Below.refl _ _) | (with_reducible assumption) | (with_reducible refine below_more ?_ ?_ _) | (with_reducible refine below_drewN ?_ _) | (with_reducible refine Below.drew ?_) | (with_reducible refine Below.alloc ?_ ?_ _) | (with_reducible refine Below.setCell ?_ ?_ _) | go_size | (simp [more_size]; done) | (simp [more_size]; omega)))))⟩
      ·
        go_wp2_with (first | (go_at_call 30; (with_reducible refine (hE.out _).mono ?_); rintro e w2 ⟨rfl, g5, rfl⟩) | (go_at_call 8; (with_reducible refine (hL.out _ (HGr.out.below (by repeat' (first | (with_reducible exact Below.refl _ _) | (with_reducible assumption) | (with_reducible refine below_more ?_ ?_ _) | (with_reducible refine below_drewN ?_ _) | (with_reducible refine Below.drew ?_) | (with_reducible refine Below.alloc ?_ ?_ _) | (with_reducible refine Below.setCell ?_ ?_ _) | go_size | (simp [more_size]; done) | (simp [more_size]; omega)))) (HBW.out.trans (by repeat' (first | (with_reducible exact Below.refl _ _) | (with_reducible assumption) | (with_reducible refine below_more ?_ ?_ _) | (with_reducible refine below_drewN ?_ _) | (with_reducible refine Below.drew ?_) | (with_reducible refine Below.alloc ?_ ?_ _) | (with_reducible refine Below.setCell ?_ ?_ _) | go_size | (simp [more_size]; done) | (simp [more_size]; omega))))).mono ?_); rintro e w2 ⟨rfl, g6, rfl⟩))
        all_goals go_ret2
        all_goals exact ⟨rfl, more_of_below (HBW.out.trans (by exact (by repeat' (first | (with_reducible exact Below.refl _ _) | (with_reducible assumption) | (with_reducible refine below_more ?_ ?_ _) | (with_reducible refine below_drewN ?_ _) | (with_reducible refine Below.drew ?_) | (with_reducible refine Below.alloc ?_ ?_ _) | (with_reducible refine Below.setCell ?_ ?_ _) | go_size | (simp [more_size]; done) | (simp [more_size]; omega)))))⟩
      ·
        have hn1 := ne_bytes2 hne
        clear hne
        go_wp2_with (first | (go_at_call 30; (with_reducible refine (hE.out _).mono ?_); rintro e w2 ⟨rfl, g5, rfl⟩) | (go_at_call 8; (with_reducible refine (hL.out _ (HGr.out.below (by repeat' (first | (with_reducible exact Below.refl _ _) | (with_reducible assumption) | (with_reducible refine below_more ?_ ?_ _) | (with_reducible refine below_drewN ?_ _) | (with_reducible refine Below.drew ?_) | (with_reducible refine Below.alloc ?_ ?_ _) | (with_reducible refine Below.setCell ?_ ?_ _) | go_size | (simp [more_size]; done) | (simp [more_size]; omega)))) (HBW.out.trans (by repeat' (first | (with_reducible exact Below.refl _ _) | (with_reducible assumption) | (with_reducible refine below_more ?_ ?_ _) | (with_reducible refine below_drewN ?_ _) | (with_reducible refine Below.drew ?_) | (with_reducible refine Below.alloc ?_ ?_ _) | (with_reducible refine Below.setCell ?_ ?_ _) | go_size | (simp [more_size]; done) | (simp [more_size]; omega))))).mono ?_); rintro e w2 ⟨rfl, g6, rfl⟩))
        all_goals go_ret2
        all_goals exact ⟨rfl, more_of_below (HBW.out.trans (by exact (by repeat' (first | (with_reducible exact Below.refl _ _) | (with_reducible assumption) | (with_reducible refine below_more ?_ ?_ _) | (with_reducible refine below_drewN ?_ _) | (with_reducible refine Below.drew ?_) | (with_reducible refine Below.alloc ?_ ?_ _) | (with_reducible refine Below.setCell ?_ ?_ _) | go_size | (simp [more_size]; done) | (simp [more_size]; omega)))))⟩
end Go.Proofs.YtcckbmmjklahfaaDoor

namespace Go.Proofs.YtcckbmmjklahfaaDoor
set_option linter.all false
open Go.RowKit
set_option maxRecDepth 100000 in
set_option maxHeartbeats 6400000 in
theorem word_w3f (s nm rs : ByteArray) (B : Bool) (k1 : Int) (k3 : Bool) (n : Int) (ps : List ByteArray)  (w : World) (bN : Nat) (hs : s.size ≤ 40) (hn : ps.length ≤ 60) (Z C : Int) (hO : 1 ≤ ps.length) (hO2 : ps.length ≤ 1) (HE : Hid (Ends w bN s ⟨3, true, k3, k1, 0, 0, 0, n⟩ Z C)) 
    (HC : Hid (CutIs s nm rs B)) (HS : Hid (SplitIs rs ps)) (HY : Hid (∀ (k : Nat) (p : ByteArray) (x : Int × Bool), ([(n, false)])[k]? = some x → ps[k]? = some p → OpYes p x)) (HG : Hid (Ga w)) (hR : As.Rw w bN nm ((3, k1, false, k3))) :
    Calls Tryd.prog 25 #[.pointer (some ⟨bN, 0, none⟩), .string s] w fun e w' => e = .returned (.tuple #[.int .u32 Z, .int .i64 C]) ∧ ∃ g, w' = more w g := by
  obtain ⟨b2, bsh, i, cap, x1, x2, x3, x4, x5, x6, x7, x8⟩ := hR
  obtain ⟨i0, hi, hz0, hz1, hz2⟩ := info_parts info_int
  have hi0 : (0 : Int) ≤ (i : Int) := by omega
  have hi1 : (i : Int) < 84 := by omega
  have s0 : w.cell? ⟨bsh, i * 4, none⟩ = some (.int .i64 3) := x7 0 _ rfl
  have s1 := x7 1 _ rfl
  have s2 := x7 2 _ rfl
  have s3 := x7 3 _ rfl
  have hlk : ∀ g, (Instr.lookup 42 (.map (some b2)) (.string nm) true).run Tryd.prog (more w g) = .ok (.tuple #[.int .i64 i, .bool true]) (more w g) := fun g => x8 _ (below_more (Below.refl _ _) (Nat.le_refl _) g)
  clear x7 x8
  go_enter Tryd.func25, Tryd.ntmps25
  go_wp2_with (first | (go_at_call 38; (with_reducible refine (HC.out _ HG.out).mono ?_); rintro e w2 ⟨rfl, g, rfl⟩) | (at_lookup; refine wpList_map_look rfl _ _ 42 true rfl rfl rfl (hlk _) ?_) | (go_at_call 39; (with_reducible refine (HS.out _ (HG.out.below (by repeat' (first | (with_reducible exact Below.refl _ _) | (with_reducible assumption) | (with_reducible refine below_more ?_ ?_ _) | (with_reducible refine below_drewN ?_ _) | (with_reducible refine Below.drew ?_) | (with_reducible refine Below.alloc ?_ ?_ _) | (with_reducible refine Below.setCell ?_ ?_ _) | go_size | (simp [more_size]; done) | (simp [more_size]; omega))))).mono ?_); rintro e w2 ⟨rfl, rfl⟩))
  rw [show decide ((40 : Int) < (s.size : Int)) = false from decide_eq_false (by omega)]
  obtain ⟨bk, hbk⟩ : ∃ bk, bk = w.heap.size + g.o.size := ⟨_, rfl⟩
  rw [← hbk]
  generalize hW0 : (more w g).alloc _ = W0
  have z0 : W0.heap.size = bk + 1 := by rw [← hW0, As.sz, more_size, hbk]
  have hk0 : W0.heap[bk]? = some (.cells #[.int .i64 3, .int .i64 k1, .bool false, .bool k3] 47 (0, 0)) := by rw [← hW0, hbk, ← more_size]; exact (MapKept.heap_alloc _ _).1
  have HB0 : Below w.heap.size w W0 := by rw [← hW0]; exact (by repeat' (first | (with_reducible exact Below.refl _ _) | (with_reducible assumption) | (with_reducible refine below_more ?_ ?_ _) | (with_reducible refine below_drewN ?_ _) | (with_reducible refine Below.drew ?_) | (with_reducible refine Below.alloc ?_ ?_ _) | (with_reducible refine Below.setCell ?_ ?_ _) | go_size | (simp [more_size]; done) | (simp [more_size]; omega)))
  clear hW0
  generalize hW1 : W0.alloc _ = W1
  have z1 : W1.heap.size = bk + 2 := by rw [← hW1, As.sz, z0]
  have HB1 : Below w.heap.size w W1 := by rw [← hW1]; exact HB0.alloc HB0.size _
  have hk1 : W1.heap[bk]? = some (.cells #[.int .i64 3, .int .i64 k1, .bool false, .bool k3] 47 (0, 0)) := by
    rw [← hW1]; exact ((MapKept.heap_alloc W0 _).2 _ (As.lt_of hk0)).trans hk0
  have hp1 : W1.heap[bk + 1]? = some (.cells (ps.map Value.string).toArray 9 (0, 0)) := by rw [← hW1, ← z0]; exact (MapKept.heap_alloc W0 _).1
  clear hk0 hW1 z0 HB0
  have hP : ∀ (j : Nat) (p : ByteArray), ps[j]? = some p → W1.cell? ⟨bk + 1, j, none⟩ = some (.string p) := fun j p h => As.marks_cell W1 _ _ _ hp1 j _ (by simp [h])
  have HP := Lib.hid hP
  have HGW := Lib.hid (HG.out.below HB1)
  have HB := Lib.hid HB1
  clear hp1 hP HB1
  have hbk1 : w.heap.size ≤ bk := by omega
  clear hbk
  obtain ⟨bz, hbz⟩ : ∃ bz, bz = bk + 2 := ⟨_, rfl⟩
  rw [← hbz] at z1
  have HZ := Lib.hid z1
  clear z1
  have HK := Lib.hid hk1
  clear hk1 hlk x2 x3 x4 x5 x6 s0 s1 s2 s3
  go_loopw [12, 13, 54] (fun v b i wr => ∃ (k : Nat) (bb : Bool), k ≤ 1 ∧ i = .int .i64 k ∧ b = .bool bb ∧ Hid (bb = As.lastF (([(n, false)] : List (Int × Bool)).take k)) ∧ Hid (wr.ownsRow bz 3 1 v k ((([(n, false)] : List (Int × Bool)).take k).map fun x => Value.int .i64 x.1)) ∧ Hid (Below bz W1 wr)) (fun _ _ i _ => ps.length - (intOf i).toNat)
  case atStart => exact ⟨0, false, by omega, rfl, rfl, Lib.hid rfl, Lib.hid (World.ownsRow_nil _ _ _ _), Lib.hid (Below.refl _ _)⟩
  case round =>
    obtain ⟨k, bb, hk, rfl, rfl, hbb, HO, HBr⟩ := hrel
    have hsz : bz ≤ wr.heap.size := by have := HBr.out.size; rw [HZ.out] at this; exact this
    by_cases hlt : k < 1
    · obtain ⟨⟨xv, xb⟩, hx⟩ : ∃ x, ([(n, false)] : List (Int × Bool))[k]? = some x := ⟨_, List.getElem?_eq_getElem (by simpa using hlt)⟩
      obtain ⟨p, hp⟩ : ∃ p, ps[k]? = some p := ⟨_, List.getElem?_eq_getElem (by omega)⟩
      have HYk := Lib.hid (HY.out k p _ hx hp)
      have hcell := (HBr.out.cell (p := ⟨bk + 1, k, none⟩) (by show bk + 1 < bz; omega)).trans (HP.out k p hp)
      have HGr := Lib.hid (HGW.out.below (by rw [HZ.out]; exact HBr.out))
      have HT := Lib.hid (show ([(n, false)] : List (Int × Bool)).take (k + 1) = ([(n, false)] : List (Int × Bool)).take k ++ [(xv, xb)] by rw [List.take_succ, hx]; rfl)
      have hkl : (k : Int) < (ps.length : Int) := by omega
      have hps : (ps.length : Int) ≤ 60 := by omega
      clear hx hp
      go_wp2_with (first | (go_at_call 40; (with_reducible refine (HYk.out _ HGr.out).mono ?_); rintro e w3 ⟨rfl, g3, rfl⟩) | (at_builtin; go_loud ((refine wpList_append_reads rfl _ _ 75 rfl bz 3 i0 (.int .i64 0) 1 8 Tryd.underlying75 hi hz0 hz1 hz2 rfl (by decide) u12 k _ rfl (owns_kept' HO.out ?_) _ 1 [.int .i64 xv] rfl (reads_litq _ _ #[.int .i64 xv] 3 1 1 (by decide) rfl ?_) ?_ ?_ ?_ ?_ ?_; (focus (exact (by repeat' (first | (with_reducible exact Below.refl _ _) | (with_reducible assumption) | (with_reducible refine below_more ?_ ?_ _) | (with_reducible refine below_drewN ?_ _) | (with_reducible refine Below.drew ?_) | (with_reducible refine Below.alloc ?_ ?_ _) | (with_reducible refine Below.setCell ?_ ?_ _) | go_size | (simp [more_size]; done) | (simp [more_size]; omega))))); (focus (simp [more_size]; done)); (focus (intro q hq; simp at hq; subst hq; rfl)); (focus (unfold maxLen; omega)); (focus omega); (focus (simp [more_size]; omega)); intro v' w1 hown' hgrow))))
      go_roundw
      case rel => exact ⟨k + 1, xb, by omega, by go_num, rfl, Lib.hid (by rw [HT.out, As.lastF_snoc]), Lib.hid (by rw [HT.out, List.map_append]; exact hown'), Lib.hid (below_grown ((below_more HBr.out hsz g3).alloc (by rw [more_size]; omega) _) (by rw [As.sz, more_size]; omega) hgrow (owns_rows HO.out))⟩
      case measure => simp [intOf]; omega
    · have hk2 : k = 1 := by omega
      subst hk2
      have HBW := Lib.hid (show Below w.heap.size w wr from HB.out.trans (HBr.out.mono (by have := HZ.out; omega)))
      have HGr := Lib.hid (HG.out.below HBW.out)
      have hbkr : bk < wr.heap.size := by omega
      have hk1 : wr.heap[bk]? = some (.cells #[.int .i64 3, .int .i64 k1, .bool false, .bool k3] 47 (0, 0)) := (HBr.out.block bk (by omega)).trans HK.out
      have c0 := As.marks_cell wr bk _ _ hk1 0 _ rfl
      have c1 := As.marks_cell wr bk _ _ hk1 1 _ rfl
      have c2 := As.marks_cell wr bk _ _ hk1 2 _ rfl
      have c3 := As.marks_cell wr bk _ _ hk1 3 _ rfl
      have hlen : ps.length = 1 := by omega
      have hbb2 : bb = false := by rw [hbb.out]; rfl
      subst hbb2
      have hown := HO.out
      simp only [List.take_succ_cons, List.take_zero, List.take_nil, List.map_cons, List.map_nil] at hown
      rcases (Reads.of_owns hown).2 with ⟨h0, _⟩ | ⟨gb, go, gc, hb, hnc, _, hlt2, hcc⟩
      · omega
      subst hb
      have d0 : wr.cell? ⟨gb, go, none⟩ = some (.int .i64 n) := hcc 0 _ rfl
      have hnc0 : (1 : Int) ≤ (gc : Int) := by omega
      have hgo := (by have := go; exact trivial : True)
      clear hk1 hlt hk HK hbk1 HP HB HBr HZ hcc hown HO hbb hgo
      rw [hlen]
      clear hlen hO hO2
      have hws := HBW.out.size
      rcases HE.out with ⟨hE, hL, rfl⟩ | ⟨hE, ⟨t, c, hL⟩, rfl, rfl⟩ | ⟨z, t, hE, hL, hne, rfl, rfl⟩
      all_goals
        replace hE := Lib.hid (show (∀ w : World, Calls Tryd.prog 30 #[.agg #[.int .i64 3, .bool true, .bool k3, .int .i64 k1, .int .i64 0, .int .i64 0, .int .i64 0, .int .i64 n]] w fun e w' => e = .returned (.tuple #[.int .u32 _, .int .i64 _]) ∧ ∃ g, w' = more w g) from hE)
        replace hL := Lib.hid hL
        clear HE
      ·
        go_wp2_with (first | (go_at_call 30; (with_reducible refine (hE.out _).mono ?_); rintro e w2 ⟨rfl, g5, rfl⟩) | (go_at_call 8; (with_reducible refine (hL.out _ (HGr.out.below (by repeat' (first | (with_reducible exact Below.refl _ _) | (with_reducible assumption) | (with_reducible refine below_more ?_ ?_ _) | (with_reducible refine below_drewN ?_ _) | (with_reducible refine Below.drew ?_) | (with_reducible refine Below.alloc ?_ ?_ _) | (with_reducible refine Below.setCell ?_ ?_ _) | go_size | (simp [more_size]; done) | (simp [more_size]; omega)))) (HBW.out.trans (by repeat' (first | (with_reducible exact Below.refl _ _) | (with_reducible assumption) | (with_reducible refine below_more ?_ ?_ _) | (with_reducible refine below_drewN ?_ _) | (with_reducible refine Below.drew ?_) | (with_reducible refine Below.alloc ?_ ?_ _) | (with_reducible refine Below.setCell ?_ ?_ _) | go_size | (simp [more_size]; done) | (simp [more_size]; omega))))).mono ?_); rintro e w2 ⟨rfl, g6, rfl⟩))
        all_goals go_ret2
        all_goals exact ⟨rfl, more_of_below (HBW.out.trans (by exact (by repeat' (first | (with_reducible exact Below.refl _ _) | (with_reducible assumption) | (with_reducible refine below_more ?_ ?_ _) | (with_reducible refine below_drewN ?_ _) | (with_reducible refine Below.drew ?_) | (with_reducible refine Below.alloc ?_ ?_ _) | (with_reducible refine Below.setCell ?_ ?_ _) | go_size | (simp [more_size]; done) | (simp [more_size]; omega)))))⟩
      ·
        go_wp2_with (first | (go_at_call 30; (with_reducible refine (hE.out _).mono ?_); rintro e w2 ⟨rfl, g5, rfl⟩) | (go_at_call 8; (with_reducible refine (hL.out _ (HGr.out.below (by repeat' (first | (with_reducible exact Below.refl _ _) | (with_reducible assumption) | (with_reducible refine below_more ?_ ?_ _) | (with_reducible refine below_drewN ?_ _) | (with_reducible refine Below.drew ?_) | (with_reducible refine Below.alloc ?_ ?_ _) | (with_reducible refine Below.setCell ?_ ?_ _) | go_size | (simp [more_size]; done) | (simp [more_size]; omega)))) (HBW.out.trans (by repeat' (first | (with_reducible exact Below.refl _ _) | (with_reducible assumption) | (with_reducible refine below_more ?_ ?_ _) | (with_reducible refine below_drewN ?_ _) | (with_reducible refine Below.drew ?_) | (with_reducible refine Below.alloc ?_ ?_ _) | (with_reducible refine Below.setCell ?_ ?_ _) | go_size | (simp [more_size]; done) | (simp [more_size]; omega))))).mono ?_); rintro e w2 ⟨rfl, g6, rfl⟩))
        all_goals go_ret2
        all_goals exact ⟨rfl, more_of_below (HBW.out.trans (by exact (by repeat' (first | (with_reducible exact Below.refl _ _) | (with_reducible assumption) | (with_reducible refine below_more ?_ ?_ _) | (with_reducible refine below_drewN ?_ _) | (with_reducible refine Below.drew ?_) | (with_reducible refine Below.alloc ?_ ?_ _) | (with_reducible refine Below.setCell ?_ ?_ _) | go_size | (simp [more_size]; done) | (simp [more_size]; omega)))))⟩
      ·
        have hn1 := ne_bytes2 hne
        clear hne
        go_wp2_with (first | (go_at_call 30; (with_reducible refine (hE.out _).mono ?_); rintro e w2 ⟨rfl, g5, rfl⟩) | (go_at_call 8; (with_reducible refine (hL.out _ (HGr.out.below (by repeat' (first | (with_reducible exact Below.refl _ _) | (with_reducible assumption) | (with_reducible refine below_more ?_ ?_ _) | (with_reducible refine below_drewN ?_ _) | (with_reducible refine Below.drew ?_) | (with_reducible refine Below.alloc ?_ ?_ _) | (with_reducible refine Below.setCell ?_ ?_ _) | go_size | (simp [more_size]; done) | (simp [more_size]; omega)))) (HBW.out.trans (by repeat' (first | (with_reducible exact Below.refl _ _) | (with_reducible assumption) | (with_reducible refine below_more ?_ ?_ _) | (with_reducible refine below_drewN ?_ _) | (with_reducible refine Below.drew ?_) | (with_reducible refine Below.alloc ?_ ?_ _) | (with_reducible refine Below.setCell ?_ ?_ _) | go_size | (simp [more_size]; done) | (simp [more_size]; omega))))).mono ?_); rintro e w2 ⟨rfl, g6, rfl⟩))
        all_goals go_ret2
        all_goals exact ⟨rfl, more_of_below (HBW.out.trans (by exact (by repeat' (first | (with_reducible exact Below.refl _ _) | (with_reducible assumption) | (with_reducible refine below_more ?_ ?_ _) | (with_reducible refine below_drewN ?_ _) | (with_reducible refine Below.drew ?_) | (with_reducible refine Below.alloc ?_ ?_ _) | (with_reducible refine Below.setCell ?_ ?_ _) | go_size | (simp [more_size]; done) | (simp [more_size]; omega)))))⟩
end Go.Proofs.YtcckbmmjklahfaaDoor
