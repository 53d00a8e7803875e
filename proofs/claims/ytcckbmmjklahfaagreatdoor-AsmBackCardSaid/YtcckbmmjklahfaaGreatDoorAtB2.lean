/- The walk of the document's parts: what a name stands for. Conditions: the name is not too long. The walk of the document's parts: names of operations. Conditions: the name is not too long. The walk of the document's parts at every name. Conditions: the name is not too long. -/
import Derived.Test.YtcckbmmjklahfaaGreatDoorAsM
import Derived.Test.YtcckbmmjklahfaaGreatDoorAsC
namespace Go.Proofs.YtcckbmmjklahfaaGreatDoor
set_option linter.all false
open Go.RowKit
namespace As
theorem at_new (W : World) (o : Obj) (p : Nat) (hp : p = W.heap.size) : (W.alloc o).heap[p]? = some o := by subst hp; exact (MapKept.heap_alloc W o).1
end As
abbrev memCells : Array Value := #[.string ⟨#[76, 68, 82]⟩, .string ⟨#[76, 68, 66]⟩, .string ⟨#[83, 84, 82]⟩, .string ⟨#[83, 84, 66]⟩]
abbrev IdxIs (l : List (List UInt8)) (n : Nat) (s : ByteArray) (k : Int) : Prop := ∀ (b : Nat) (w : World), w.heap[b]? = some (.cells (As.scs l) 9 (0, 0)) → Calls Tryz.prog 38 #[.slice (some ⟨b, 0, none⟩) n n, .string s] w fun e w' => e = .returned (.int .i64 k) ∧ w' = w
abbrev MemIs (s : ByteArray) (k : Int) : Prop := ∀ (b : Nat) (w : World), w.heap[b]? = some (.cells memCells 9 (0, 0)) → Calls Tryz.prog 38 #[.slice (some ⟨b, 0, none⟩) 4 4, .string s] w fun e w' => e = .returned (.int .i64 k) ∧ w' = w
theorem mem_is (s : ByteArray) : MemIs s (As.find As.mems s.data.toList) := fun b w hb => rindex_any As.mems s b 4 w (by decide) (by decide) hb
theorem idx_ops (s : ByteArray) : IdxIs As.ops 12 s (As.find As.ops s.data.toList) := fun b w hb => rindex_any As.ops s b 12 w (by decide) (by decide) hb
theorem idx_conds (s : ByteArray) : IdxIs As.conds 16 s (As.find As.conds s.data.toList) := fun b w hb => rindex_any As.conds s b 16 w (by decide) (by decide) hb
abbrev RCutIs (s sep a b : ByteArray) (c : Bool) : Prop := ∀ w : World, Calls Tryz.prog 17 #[.string s, .string sep] w fun e w' => e = .returned (.tuple #[.string a, .string b, .bool c]) ∧ ∃ g, w' = more w g
set_option maxRecDepth 100000 in
set_option maxHeartbeats 3200000 in
theorem rparts_mem0 (s : ByteArray) (w : World) (hs : s.size ≤ 40000) (HM : Hid (MemIs s 0)) :
    Calls Tryz.prog 18 #[.string s] w fun e w' => e = .returned (.tuple #[.agg #[.int .i64 2, .bool false, .bool false, .int .i64 0, .int .i64 0, .int .i64 0, .int .i64 0, .int .i64 0], .bool true]) ∧ ∃ g, w' = more w g := by
  go_enter Tryz.func18, Tryz.ntmps18
  go_wp2_with (first | (go_at_call 38; first | ((with_reducible refine (HM.out _ _ ?_).mono ?_); (focus (refine As.at_new _ _ _ ?_; simp [As.sz3]; done)); rintro e w2 ⟨rfl, rfl⟩) | ((with_reducible refine (HI.out _ _ ?_).mono ?_); (focus (refine As.at_new _ _ _ ?_; simp [As.sz3, more_size]; done)); rintro e w2 ⟨rfl, rfl⟩)) | (go_at_call 17; (with_reducible refine (HC.out _).mono ?_); rintro e w2 ⟨rfl, g, rfl⟩) | (go_at_call 39; (with_reducible refine (rconds_any _).mono ?_); rintro e w2 ⟨rfl, rfl⟩) | (go_at_call 40; (with_reducible refine (rops_any _).mono ?_); rintro e w2 ⟨rfl, rfl⟩))
  all_goals go_returns
  all_goals exact ⟨rfl, more_of_below (by repeat' (first | (with_reducible exact Below.refl _ _) | (with_reducible assumption) | (with_reducible refine below_more ?_ ?_ _) | (with_reducible refine below_drewN ?_ _) | (with_reducible refine Below.drew ?_) | (with_reducible refine Below.alloc ?_ ?_ _) | (with_reducible refine Below.setCell ?_ ?_ _) | go_size | (simp [more_size]; done) | (simp [more_size]; omega)))⟩
set_option maxRecDepth 100000 in
set_option maxHeartbeats 3200000 in
theorem rparts_mem1 (s : ByteArray) (w : World) (hs : s.size ≤ 40000) (HM : Hid (MemIs s 1)) :
    Calls Tryz.prog 18 #[.string s] w fun e w' => e = .returned (.tuple #[.agg #[.int .i64 2, .bool false, .bool true, .int .i64 0, .int .i64 0, .int .i64 0, .int .i64 0, .int .i64 0], .bool true]) ∧ ∃ g, w' = more w g := by
  go_enter Tryz.func18, Tryz.ntmps18
  go_wp2_with (first | (go_at_call 38; first | ((with_reducible refine (HM.out _ _ ?_).mono ?_); (focus (refine As.at_new _ _ _ ?_; simp [As.sz3]; done)); rintro e w2 ⟨rfl, rfl⟩) | ((with_reducible refine (HI.out _ _ ?_).mono ?_); (focus (refine As.at_new _ _ _ ?_; simp [As.sz3, more_size]; done)); rintro e w2 ⟨rfl, rfl⟩)) | (go_at_call 17; (with_reducible refine (HC.out _).mono ?_); rintro e w2 ⟨rfl, g, rfl⟩) | (go_at_call 39; (with_reducible refine (rconds_any _).mono ?_); rintro e w2 ⟨rfl, rfl⟩) | (go_at_call 40; (with_reducible refine (rops_any _).mono ?_); rintro e w2 ⟨rfl, rfl⟩))
  all_goals go_returns
  all_goals exact ⟨rfl, more_of_below (by repeat' (first | (with_reducible exact Below.refl _ _) | (with_reducible assumption) | (with_reducible refine below_more ?_ ?_ _) | (with_reducible refine below_drewN ?_ _) | (with_reducible refine Below.drew ?_) | (with_reducible refine Below.alloc ?_ ?_ _) | (with_reducible refine Below.setCell ?_ ?_ _) | go_size | (simp [more_size]; done) | (simp [more_size]; omega)))⟩
set_option maxRecDepth 100000 in
set_option maxHeartbeats 3200000 in
theorem rparts_mem2 (s : ByteArray) (w : World) (hs : s.size ≤ 40000) (HM : Hid (MemIs s 2)) :
    Calls Tryz.prog 18 #[.string s] w fun e w' => e = .returned (.tuple #[.agg #[.int .i64 2, .bool true, .bool false, .int .i64 0, .int .i64 0, .int .i64 0, .int .i64 0, .int .i64 0], .bool true]) ∧ ∃ g, w' = more w g := by
  go_enter Tryz.func18, Tryz.ntmps18
  go_wp2_with (first | (go_at_call 38; first | ((with_reducible refine (HM.out _ _ ?_).mono ?_); (focus (refine As.at_new _ _ _ ?_; simp [As.sz3]; done)); rintro e w2 ⟨rfl, rfl⟩) | ((with_reducible refine (HI.out _ _ ?_).mono ?_); (focus (refine As.at_new _ _ _ ?_; simp [As.sz3, more_size]; done)); rintro e w2 ⟨rfl, rfl⟩)) | (go_at_call 17; (with_reducible refine (HC.out _).mono ?_); rintro e w2 ⟨rfl, g, rfl⟩) | (go_at_call 39; (with_reducible refine (rconds_any _).mono ?_); rintro e w2 ⟨rfl, rfl⟩) | (go_at_call 40; (with_reducible refine (rops_any _).mono ?_); rintro e w2 ⟨rfl, rfl⟩))
  all_goals go_returns
  all_goals exact ⟨rfl, more_of_below (by repeat' (first | (with_reducible exact Below.refl _ _) | (with_reducible assumption) | (with_reducible refine below_more ?_ ?_ _) | (with_reducible refine below_drewN ?_ _) | (with_reducible refine Below.drew ?_) | (with_reducible refine Below.alloc ?_ ?_ _) | (with_reducible refine Below.setCell ?_ ?_ _) | go_size | (simp [more_size]; done) | (simp [more_size]; omega)))⟩
set_option maxRecDepth 100000 in
set_option maxHeartbeats 3200000 in
theorem rparts_mem3 (s : ByteArray) (w : World) (hs : s.size ≤ 40000) (HM : Hid (MemIs s 3)) :
    Calls Tryz.prog 18 #[.string s] w fun e w' => e = .returned (.tuple #[.agg #[.int .i64 2, .bool true, .bool true, .int .i64 0, .int .i64 0, .int .i64 0, .int .i64 0, .int .i64 0], .bool true]) ∧ ∃ g, w' = more w g := by
  go_enter Tryz.func18, Tryz.ntmps18
  go_wp2_with (first | (go_at_call 38; first | ((with_reducible refine (HM.out _ _ ?_).mono ?_); (focus (refine As.at_new _ _ _ ?_; simp [As.sz3]; done)); rintro e w2 ⟨rfl, rfl⟩) | ((with_reducible refine (HI.out _ _ ?_).mono ?_); (focus (refine As.at_new _ _ _ ?_; simp [As.sz3, more_size]; done)); rintro e w2 ⟨rfl, rfl⟩)) | (go_at_call 17; (with_reducible refine (HC.out _).mono ?_); rintro e w2 ⟨rfl, g, rfl⟩) | (go_at_call 39; (with_reducible refine (rconds_any _).mono ?_); rintro e w2 ⟨rfl, rfl⟩) | (go_at_call 40; (with_reducible refine (rops_any _).mono ?_); rintro e w2 ⟨rfl, rfl⟩))
  all_goals go_returns
  all_goals exact ⟨rfl, more_of_below (by repeat' (first | (with_reducible exact Below.refl _ _) | (with_reducible assumption) | (with_reducible refine below_more ?_ ?_ _) | (with_reducible refine below_drewN ?_ _) | (with_reducible refine Below.drew ?_) | (with_reducible refine Below.alloc ?_ ?_ _) | (with_reducible refine Below.setCell ?_ ?_ _) | go_size | (simp [more_size]; done) | (simp [more_size]; omega)))⟩
set_option maxRecDepth 100000 in
set_option maxHeartbeats 3200000 in
theorem rparts_b (s : ByteArray) (w : World) (hs : s.size ≤ 40000) (b : ByteArray) (c : Int) (hc : 0 ≤ c) (HM : Hid (MemIs s (-1))) (HC : Hid (RCutIs s ⟨#[46]⟩ ⟨#[66]⟩ b true)) (HI : Hid (IdxIs As.conds 16 b c)) :
    Calls Tryz.prog 18 #[.string s] w fun e w' => e = .returned (.tuple #[.agg #[.int .i64 3, .bool false, .bool false, .int .i64 c, .int .i64 0, .int .i64 0, .int .i64 0, .int .i64 0], .bool true]) ∧ ∃ g, w' = more w g := by
  go_enter Tryz.func18, Tryz.ntmps18
  go_wp2_with (first | (go_at_call 38; first | ((with_reducible refine (HM.out _ _ ?_).mono ?_); (focus (refine As.at_new _ _ _ ?_; simp [As.sz3]; done)); rintro e w2 ⟨rfl, rfl⟩) | ((with_reducible refine (HI.out _ _ ?_).mono ?_); (focus (refine As.at_new _ _ _ ?_; simp [As.sz3, more_size]; done)); rintro e w2 ⟨rfl, rfl⟩)) | (go_at_call 17; (with_reducible refine (HC.out _).mono ?_); rintro e w2 ⟨rfl, g, rfl⟩) | (go_at_call 39; (with_reducible refine (rconds_any _).mono ?_); rintro e w2 ⟨rfl, rfl⟩) | (go_at_call 40; (with_reducible refine (rops_any _).mono ?_); rintro e w2 ⟨rfl, rfl⟩))
  all_goals go_returns
  all_goals exact ⟨rfl, more_of_below (by repeat' (first | (with_reducible exact Below.refl _ _) | (with_reducible assumption) | (with_reducible refine below_more ?_ ?_ _) | (with_reducible refine below_drewN ?_ _) | (with_reducible refine Below.drew ?_) | (with_reducible refine Below.alloc ?_ ?_ _) | (with_reducible refine Below.setCell ?_ ?_ _) | go_size | (simp [more_size]; done) | (simp [more_size]; omega)))⟩
set_option maxRecDepth 100000 in
set_option maxHeartbeats 3200000 in
theorem rparts_bl (s : ByteArray) (w : World) (hs : s.size ≤ 40000) (b : ByteArray) (c : Int) (hc : 0 ≤ c) (HM : Hid (MemIs s (-1))) (HC : Hid (RCutIs s ⟨#[46]⟩ ⟨#[66, 76]⟩ b true)) (HI : Hid (IdxIs As.conds 16 b c)) :
    Calls Tryz.prog 18 #[.string s] w fun e w' => e = .returned (.tuple #[.agg #[.int .i64 3, .bool false, .bool true, .int .i64 c, .int .i64 0, .int .i64 0, .int .i64 0, .int .i64 0], .bool true]) ∧ ∃ g, w' = more w g := by
  go_enter Tryz.func18, Tryz.ntmps18
  go_wp2_with (first | (go_at_call 38; first | ((with_reducible refine (HM.out _ _ ?_).mono ?_); (focus (refine As.at_new _ _ _ ?_; simp [As.sz3]; done)); rintro e w2 ⟨rfl, rfl⟩) | ((with_reducible refine (HI.out _ _ ?_).mono ?_); (focus (refine As.at_new _ _ _ ?_; simp [As.sz3, more_size]; done)); rintro e w2 ⟨rfl, rfl⟩)) | (go_at_call 17; (with_reducible refine (HC.out _).mono ?_); rintro e w2 ⟨rfl, g, rfl⟩) | (go_at_call 39; (with_reducible refine (rconds_any _).mono ?_); rintro e w2 ⟨rfl, rfl⟩) | (go_at_call 40; (with_reducible refine (rops_any _).mono ?_); rintro e w2 ⟨rfl, rfl⟩))
  all_goals go_returns
  all_goals exact ⟨rfl, more_of_below (by repeat' (first | (with_reducible exact Below.refl _ _) | (with_reducible assumption) | (with_reducible refine below_more ?_ ?_ _) | (with_reducible refine below_drewN ?_ _) | (with_reducible refine Below.drew ?_) | (with_reducible refine Below.alloc ?_ ?_ _) | (with_reducible refine Below.setCell ?_ ?_ _) | go_size | (simp [more_size]; done) | (simp [more_size]; omega)))⟩
set_option maxRecDepth 100000 in
set_option maxHeartbeats 3200000 in
theorem rparts_bx (s : ByteArray) (w : World) (hs : s.size ≤ 40000) (a b : ByteArray) (c : Int) (h1 : (a.toList == [66]) = false) (h2 : (a.toList == [66, 76]) = false) (HM : Hid (MemIs s (-1))) (HC : Hid (RCutIs s ⟨#[46]⟩ a b true)) (HI : Hid (IdxIs As.conds 16 b c)) :
    Calls Tryz.prog 18 #[.string s] w fun e w' => e = .returned (.tuple #[.agg #[.int .i64 3, .bool false, .bool false, .int .i64 c, .int .i64 0, .int .i64 0, .int .i64 0, .int .i64 0], .bool false]) ∧ ∃ g, w' = more w g := by
  go_enter Tryz.func18, Tryz.ntmps18
  go_wp2_with (first | (go_at_call 38; first | ((with_reducible refine (HM.out _ _ ?_).mono ?_); (focus (refine As.at_new _ _ _ ?_; simp [As.sz3]; done)); rintro e w2 ⟨rfl, rfl⟩) | ((with_reducible refine (HI.out _ _ ?_).mono ?_); (focus (refine As.at_new _ _ _ ?_; simp [As.sz3, more_size]; done)); rintro e w2 ⟨rfl, rfl⟩)) | (go_at_call 17; (with_reducible refine (HC.out _).mono ?_); rintro e w2 ⟨rfl, g, rfl⟩) | (go_at_call 39; (with_reducible refine (rconds_any _).mono ?_); rintro e w2 ⟨rfl, rfl⟩) | (go_at_call 40; (with_reducible refine (rops_any _).mono ?_); rintro e w2 ⟨rfl, rfl⟩))
  all_goals go_returns
  all_goals exact ⟨rfl, more_of_below (by repeat' (first | (with_reducible exact Below.refl _ _) | (with_reducible assumption) | (with_reducible refine below_more ?_ ?_ _) | (with_reducible refine below_drewN ?_ _) | (with_reducible refine Below.drew ?_) | (with_reducible refine Below.alloc ?_ ?_ _) | (with_reducible refine Below.setCell ?_ ?_ _) | go_size | (simp [more_size]; done) | (simp [more_size]; omega)))⟩
set_option maxRecDepth 100000 in
set_option maxHeartbeats 3200000 in
theorem rparts_bn (s : ByteArray) (w : World) (hs : s.size ≤ 40000) (a b : ByteArray) (V : Bool) (h2 : (a.toList == [66, 76]) = V) (HM : Hid (MemIs s (-1))) (HC : Hid (RCutIs s ⟨#[46]⟩ a b true)) (HI : Hid (IdxIs As.conds 16 b (-1))) :
    Calls Tryz.prog 18 #[.string s] w fun e w' => e = .returned (.tuple #[.agg #[.int .i64 3, .bool false, .bool V, .int .i64 (-1), .int .i64 0, .int .i64 0, .int .i64 0, .int .i64 0], .bool false]) ∧ ∃ g, w' = more w g := by
  go_enter Tryz.func18, Tryz.ntmps18
  go_wp2_with (first | (go_at_call 38; first | ((with_reducible refine (HM.out _ _ ?_).mono ?_); (focus (refine As.at_new _ _ _ ?_; simp [As.sz3]; done)); rintro e w2 ⟨rfl, rfl⟩) | ((with_reducible refine (HI.out _ _ ?_).mono ?_); (focus (refine As.at_new _ _ _ ?_; simp [As.sz3, more_size]; done)); rintro e w2 ⟨rfl, rfl⟩)) | (go_at_call 17; (with_reducible refine (HC.out _).mono ?_); rintro e w2 ⟨rfl, g, rfl⟩) | (go_at_call 39; (with_reducible refine (rconds_any _).mono ?_); rintro e w2 ⟨rfl, rfl⟩) | (go_at_call 40; (with_reducible refine (rops_any _).mono ?_); rintro e w2 ⟨rfl, rfl⟩))
  all_goals go_returns
  all_goals exact ⟨rfl, more_of_below (by repeat' (first | (with_reducible exact Below.refl _ _) | (with_reducible assumption) | (with_reducible refine below_more ?_ ?_ _) | (with_reducible refine below_drewN ?_ _) | (with_reducible refine Below.drew ?_) | (with_reducible refine Below.alloc ?_ ?_ _) | (with_reducible refine Below.setCell ?_ ?_ _) | go_size | (simp [more_size]; done) | (simp [more_size]; omega)))⟩
end Go.Proofs.YtcckbmmjklahfaaGreatDoor

namespace Go.Proofs.YtcckbmmjklahfaaGreatDoor
set_option linter.all false
open Go.RowKit
set_option maxRecDepth 100000 in
set_option maxHeartbeats 3200000 in
theorem rparts_opTTy (s : ByteArray) (w : World) (hs : s.size ≤ 40000) (s1 s2 : ByteArray) (x y : ByteArray) (c : Int) (hc : 0 ≤ c) (hpm : 0 < s.size) (him : (1 : Int) ≤ (s.size : Int)) (hjm : (s.size : Int) ≤ 40000) (hbm : ∀ h, (((((s[s.size - 1]'h).toNat) : Nat) : Int) == 34) = true) (hem : s.extract 0 (s.size - 1) = s1) (hpk : 0 < s1.size) (hik : (1 : Int) ≤ (s1.size : Int)) (hjk : (s1.size : Int) ≤ 40000) (hbk : ∀ h, (((((s1[s1.size - 1]'h).toNat) : Nat) : Int) == 39) = true) (hek : s1.extract 0 (s1.size - 1) = s2) (HM : Hid (MemIs s (-1))) (HC : Hid (RCutIs s ⟨#[46]⟩ x y false)) (HI : Hid (IdxIs As.ops 12 s2 c)) :
    Calls Tryz.prog 18 #[.string s] w fun e w' => e = .returned (.tuple #[.agg #[.int .i64 0, .bool true, .bool true, .int .i64 0, .int .i64 0, .int .i64 0, .int .i64 c, .int .i64 0], .bool true]) ∧ ∃ g, w' = more w g := by
  go_enter Tryz.func18, Tryz.ntmps18
  go_wp2_with (first | (go_at_call 38; first | ((with_reducible refine (HM.out _ _ ?_).mono ?_); (focus (refine As.at_new _ _ _ ?_; simp [As.sz3]; done)); rintro e w2 ⟨rfl, rfl⟩) | ((with_reducible refine (HI.out _ _ ?_).mono ?_); (focus (refine As.at_new _ _ _ ?_; simp [As.sz3, more_size]; done)); rintro e w2 ⟨rfl, rfl⟩)) | (go_at_call 17; (with_reducible refine (HC.out _).mono ?_); rintro e w2 ⟨rfl, g, rfl⟩) | (go_at_call 40; (with_reducible refine (rops_any _).mono ?_); rintro e w2 ⟨rfl, rfl⟩))
  go_region
  go_wp2_with (first | (go_at_call 38; first | ((with_reducible refine (HM.out _ _ ?_).mono ?_); (focus (refine As.at_new _ _ _ ?_; simp [As.sz3]; done)); rintro e w2 ⟨rfl, rfl⟩) | ((with_reducible refine (HI.out _ _ ?_).mono ?_); (focus (refine As.at_new _ _ _ ?_; simp [As.sz3, more_size]; done)); rintro e w2 ⟨rfl, rfl⟩)) | (go_at_call 17; (with_reducible refine (HC.out _).mono ?_); rintro e w2 ⟨rfl, g, rfl⟩) | (go_at_call 40; (with_reducible refine (rops_any _).mono ?_); rintro e w2 ⟨rfl, rfl⟩))
  go_region
  go_wp2_with (first | (go_at_call 38; first | ((with_reducible refine (HM.out _ _ ?_).mono ?_); (focus (refine As.at_new _ _ _ ?_; simp [As.sz3]; done)); rintro e w2 ⟨rfl, rfl⟩) | ((with_reducible refine (HI.out _ _ ?_).mono ?_); (focus (refine As.at_new _ _ _ ?_; simp [As.sz3, more_size]; done)); rintro e w2 ⟨rfl, rfl⟩)) | (go_at_call 17; (with_reducible refine (HC.out _).mono ?_); rintro e w2 ⟨rfl, g, rfl⟩) | (go_at_call 40; (with_reducible refine (rops_any _).mono ?_); rintro e w2 ⟨rfl, rfl⟩))
  go_region
  go_wp2
  all_goals go_returns
  all_goals exact ⟨rfl, more_of_below (by repeat' (first | (with_reducible exact Below.refl _ _) | (with_reducible assumption) | (with_reducible refine below_more ?_ ?_ _) | (with_reducible refine below_drewN ?_ _) | (with_reducible refine Below.drew ?_) | (with_reducible refine Below.alloc ?_ ?_ _) | (with_reducible refine Below.setCell ?_ ?_ _) | go_size | (simp [more_size]; done) | (simp [more_size]; omega)))⟩
set_option maxRecDepth 100000 in
set_option maxHeartbeats 3200000 in
theorem rparts_opTTn (s : ByteArray) (w : World) (hs : s.size ≤ 40000) (s1 s2 : ByteArray) (x y : ByteArray) (hpm : 0 < s.size) (him : (1 : Int) ≤ (s.size : Int)) (hjm : (s.size : Int) ≤ 40000) (hbm : ∀ h, (((((s[s.size - 1]'h).toNat) : Nat) : Int) == 34) = true) (hem : s.extract 0 (s.size - 1) = s1) (hpk : 0 < s1.size) (hik : (1 : Int) ≤ (s1.size : Int)) (hjk : (s1.size : Int) ≤ 40000) (hbk : ∀ h, (((((s1[s1.size - 1]'h).toNat) : Nat) : Int) == 39) = true) (hek : s1.extract 0 (s1.size - 1) = s2) (HM : Hid (MemIs s (-1))) (HC : Hid (RCutIs s ⟨#[46]⟩ x y false)) (HI : Hid (IdxIs As.ops 12 s2 (-1))) :
    Calls Tryz.prog 18 #[.string s] w fun e w' => e = .returned (.tuple #[.agg #[.int .i64 0, .bool true, .bool true, .int .i64 0, .int .i64 0, .int .i64 0, .int .i64 (-1), .int .i64 0], .bool false]) ∧ ∃ g, w' = more w g := by
  go_enter Tryz.func18, Tryz.ntmps18
  go_wp2_with (first | (go_at_call 38; first | ((with_reducible refine (HM.out _ _ ?_).mono ?_); (focus (refine As.at_new _ _ _ ?_; simp [As.sz3]; done)); rintro e w2 ⟨rfl, rfl⟩) | ((with_reducible refine (HI.out _ _ ?_).mono ?_); (focus (refine As.at_new _ _ _ ?_; simp [As.sz3, more_size]; done)); rintro e w2 ⟨rfl, rfl⟩)) | (go_at_call 17; (with_reducible refine (HC.out _).mono ?_); rintro e w2 ⟨rfl, g, rfl⟩) | (go_at_call 40; (with_reducible refine (rops_any _).mono ?_); rintro e w2 ⟨rfl, rfl⟩))
  go_region
  go_wp2_with (first | (go_at_call 38; first | ((with_reducible refine (HM.out _ _ ?_).mono ?_); (focus (refine As.at_new _ _ _ ?_; simp [As.sz3]; done)); rintro e w2 ⟨rfl, rfl⟩) | ((with_reducible refine (HI.out _ _ ?_).mono ?_); (focus (refine As.at_new _ _ _ ?_; simp [As.sz3, more_size]; done)); rintro e w2 ⟨rfl, rfl⟩)) | (go_at_call 17; (with_reducible refine (HC.out _).mono ?_); rintro e w2 ⟨rfl, g, rfl⟩) | (go_at_call 40; (with_reducible refine (rops_any _).mono ?_); rintro e w2 ⟨rfl, rfl⟩))
  go_region
  go_wp2_with (first | (go_at_call 38; first | ((with_reducible refine (HM.out _ _ ?_).mono ?_); (focus (refine As.at_new _ _ _ ?_; simp [As.sz3]; done)); rintro e w2 ⟨rfl, rfl⟩) | ((with_reducible refine (HI.out _ _ ?_).mono ?_); (focus (refine As.at_new _ _ _ ?_; simp [As.sz3, more_size]; done)); rintro e w2 ⟨rfl, rfl⟩)) | (go_at_call 17; (with_reducible refine (HC.out _).mono ?_); rintro e w2 ⟨rfl, g, rfl⟩) | (go_at_call 40; (with_reducible refine (rops_any _).mono ?_); rintro e w2 ⟨rfl, rfl⟩))
  go_region
  go_wp2
  all_goals go_returns
  all_goals exact ⟨rfl, more_of_below (by repeat' (first | (with_reducible exact Below.refl _ _) | (with_reducible assumption) | (with_reducible refine below_more ?_ ?_ _) | (with_reducible refine below_drewN ?_ _) | (with_reducible refine Below.drew ?_) | (with_reducible refine Below.alloc ?_ ?_ _) | (with_reducible refine Below.setCell ?_ ?_ _) | go_size | (simp [more_size]; done) | (simp [more_size]; omega)))⟩
set_option maxRecDepth 100000 in
set_option maxHeartbeats 3200000 in
theorem rparts_opTEy (s : ByteArray) (w : World) (hs : s.size ≤ 40000) (s1 : ByteArray) (x y : ByteArray) (c : Int) (hc : 0 ≤ c) (hpm : 0 < s.size) (him : (1 : Int) ≤ (s.size : Int)) (hjm : (s.size : Int) ≤ 40000) (hbm : ∀ h, (((((s[s.size - 1]'h).toNat) : Nat) : Int) == 34) = true) (hem : s.extract 0 (s.size - 1) = s1) (hzk : s1.size = 0) (HM : Hid (MemIs s (-1))) (HC : Hid (RCutIs s ⟨#[46]⟩ x y false)) (HI : Hid (IdxIs As.ops 12 s1 c)) :
    Calls Tryz.prog 18 #[.string s] w fun e w' => e = .returned (.tuple #[.agg #[.int .i64 0, .bool false, .bool true, .int .i64 0, .int .i64 0, .int .i64 0, .int .i64 c, .int .i64 0], .bool true]) ∧ ∃ g, w' = more w g := by
  go_enter Tryz.func18, Tryz.ntmps18
  go_wp2_with (first | (go_at_call 38; first | ((with_reducible refine (HM.out _ _ ?_).mono ?_); (focus (refine As.at_new _ _ _ ?_; simp [As.sz3]; done)); rintro e w2 ⟨rfl, rfl⟩) | ((with_reducible refine (HI.out _ _ ?_).mono ?_); (focus (refine As.at_new _ _ _ ?_; simp [As.sz3, more_size]; done)); rintro e w2 ⟨rfl, rfl⟩)) | (go_at_call 17; (with_reducible refine (HC.out _).mono ?_); rintro e w2 ⟨rfl, g, rfl⟩) | (go_at_call 40; (with_reducible refine (rops_any _).mono ?_); rintro e w2 ⟨rfl, rfl⟩))
  go_region
  go_wp2_with (first | (go_at_call 38; first | ((with_reducible refine (HM.out _ _ ?_).mono ?_); (focus (refine As.at_new _ _ _ ?_; simp [As.sz3]; done)); rintro e w2 ⟨rfl, rfl⟩) | ((with_reducible refine (HI.out _ _ ?_).mono ?_); (focus (refine As.at_new _ _ _ ?_; simp [As.sz3, more_size]; done)); rintro e w2 ⟨rfl, rfl⟩)) | (go_at_call 17; (with_reducible refine (HC.out _).mono ?_); rintro e w2 ⟨rfl, g, rfl⟩) | (go_at_call 40; (with_reducible refine (rops_any _).mono ?_); rintro e w2 ⟨rfl, rfl⟩))
  go_region
  go_wp2
  all_goals go_returns
  all_goals exact ⟨rfl, more_of_below (by repeat' (first | (with_reducible exact Below.refl _ _) | (with_reducible assumption) | (with_reducible refine below_more ?_ ?_ _) | (with_reducible refine below_drewN ?_ _) | (with_reducible refine Below.drew ?_) | (with_reducible refine Below.alloc ?_ ?_ _) | (with_reducible refine Below.setCell ?_ ?_ _) | go_size | (simp [more_size]; done) | (simp [more_size]; omega)))⟩
set_option maxRecDepth 100000 in
set_option maxHeartbeats 3200000 in
theorem rparts_opTEn (s : ByteArray) (w : World) (hs : s.size ≤ 40000) (s1 : ByteArray) (x y : ByteArray) (hpm : 0 < s.size) (him : (1 : Int) ≤ (s.size : Int)) (hjm : (s.size : Int) ≤ 40000) (hbm : ∀ h, (((((s[s.size - 1]'h).toNat) : Nat) : Int) == 34) = true) (hem : s.extract 0 (s.size - 1) = s1) (hzk : s1.size = 0) (HM : Hid (MemIs s (-1))) (HC : Hid (RCutIs s ⟨#[46]⟩ x y false)) (HI : Hid (IdxIs As.ops 12 s1 (-1))) :
    Calls Tryz.prog 18 #[.string s] w fun e w' => e = .returned (.tuple #[.agg #[.int .i64 0, .bool false, .bool true, .int .i64 0, .int .i64 0, .int .i64 0, .int .i64 (-1), .int .i64 0], .bool false]) ∧ ∃ g, w' = more w g := by
  go_enter Tryz.func18, Tryz.ntmps18
  go_wp2_with (first | (go_at_call 38; first | ((with_reducible refine (HM.out _ _ ?_).mono ?_); (focus (refine As.at_new _ _ _ ?_; simp [As.sz3]; done)); rintro e w2 ⟨rfl, rfl⟩) | ((with_reducible refine (HI.out _ _ ?_).mono ?_); (focus (refine As.at_new _ _ _ ?_; simp [As.sz3, more_size]; done)); rintro e w2 ⟨rfl, rfl⟩)) | (go_at_call 17; (with_reducible refine (HC.out _).mono ?_); rintro e w2 ⟨rfl, g, rfl⟩) | (go_at_call 40; (with_reducible refine (rops_any _).mono ?_); rintro e w2 ⟨rfl, rfl⟩))
  go_region
  go_wp2_with (first | (go_at_call 38; first | ((with_reducible refine (HM.out _ _ ?_).mono ?_); (focus (refine As.at_new _ _ _ ?_; simp [As.sz3]; done)); rintro e w2 ⟨rfl, rfl⟩) | ((with_reducible refine (HI.out _ _ ?_).mono ?_); (focus (refine As.at_new _ _ _ ?_; simp [As.sz3, more_size]; done)); rintro e w2 ⟨rfl, rfl⟩)) | (go_at_call 17; (with_reducible refine (HC.out _).mono ?_); rintro e w2 ⟨rfl, g, rfl⟩) | (go_at_call 40; (with_reducible refine (rops_any _).mono ?_); rintro e w2 ⟨rfl, rfl⟩))
  go_region
  go_wp2
  all_goals go_returns
  all_goals exact ⟨rfl, more_of_below (by repeat' (first | (with_reducible exact Below.refl _ _) | (with_reducible assumption) | (with_reducible refine below_more ?_ ?_ _) | (with_reducible refine below_drewN ?_ _) | (with_reducible refine Below.drew ?_) | (with_reducible refine Below.alloc ?_ ?_ _) | (with_reducible refine Below.setCell ?_ ?_ _) | go_size | (simp [more_size]; done) | (simp [more_size]; omega)))⟩
set_option maxRecDepth 100000 in
set_option maxHeartbeats 3200000 in
theorem rparts_opTNy (s : ByteArray) (w : World) (hs : s.size ≤ 40000) (s1 : ByteArray) (x y : ByteArray) (c : Int) (hc : 0 ≤ c) (hpm : 0 < s.size) (him : (1 : Int) ≤ (s.size : Int)) (hjm : (s.size : Int) ≤ 40000) (hbm : ∀ h, (((((s[s.size - 1]'h).toNat) : Nat) : Int) == 34) = true) (hem : s.extract 0 (s.size - 1) = s1) (hpk : 0 < s1.size) (hik : (1 : Int) ≤ (s1.size : Int)) (hjk : (s1.size : Int) ≤ 40000) (hbk : ∀ h, (((((s1[s1.size - 1]'h).toNat) : Nat) : Int) == 39) = false) (HM : Hid (MemIs s (-1))) (HC : Hid (RCutIs s ⟨#[46]⟩ x y false)) (HI : Hid (IdxIs As.ops 12 s1 c)) :
    Calls Tryz.prog 18 #[.string s] w fun e w' => e = .returned (.tuple #[.agg #[.int .i64 0, .bool false, .bool true, .int .i64 0, .int .i64 0, .int .i64 0, .int .i64 c, .int .i64 0], .bool true]) ∧ ∃ g, w' = more w g := by
  go_enter Tryz.func18, Tryz.ntmps18
  go_wp2_with (first | (go_at_call 38; first | ((with_reducible refine (HM.out _ _ ?_).mono ?_); (focus (refine As.at_new _ _ _ ?_; simp [As.sz3]; done)); rintro e w2 ⟨rfl, rfl⟩) | ((with_reducible refine (HI.out _ _ ?_).mono ?_); (focus (refine As.at_new _ _ _ ?_; simp [As.sz3, more_size]; done)); rintro e w2 ⟨rfl, rfl⟩)) | (go_at_call 17; (with_reducible refine (HC.out _).mono ?_); rintro e w2 ⟨rfl, g, rfl⟩) | (go_at_call 40; (with_reducible refine (rops_any _).mono ?_); rintro e w2 ⟨rfl, rfl⟩))
  go_region
  go_wp2_with (first | (go_at_call 38; first | ((with_reducible refine (HM.out _ _ ?_).mono ?_); (focus (refine As.at_new _ _ _ ?_; simp [As.sz3]; done)); rintro e w2 ⟨rfl, rfl⟩) | ((with_reducible refine (HI.out _ _ ?_).mono ?_); (focus (refine As.at_new _ _ _ ?_; simp [As.sz3, more_size]; done)); rintro e w2 ⟨rfl, rfl⟩)) | (go_at_call 17; (with_reducible refine (HC.out _).mono ?_); rintro e w2 ⟨rfl, g, rfl⟩) | (go_at_call 40; (with_reducible refine (rops_any _).mono ?_); rintro e w2 ⟨rfl, rfl⟩))
  go_region
  go_wp2
  all_goals go_returns
  all_goals exact ⟨rfl, more_of_below (by repeat' (first | (with_reducible exact Below.refl _ _) | (with_reducible assumption) | (with_reducible refine below_more ?_ ?_ _) | (with_reducible refine below_drewN ?_ _) | (with_reducible refine Below.drew ?_) | (with_reducible refine Below.alloc ?_ ?_ _) | (with_reducible refine Below.setCell ?_ ?_ _) | go_size | (simp [more_size]; done) | (simp [more_size]; omega)))⟩
set_option maxRecDepth 100000 in
set_option maxHeartbeats 3200000 in
theorem rparts_opTNn (s : ByteArray) (w : World) (hs : s.size ≤ 40000) (s1 : ByteArray) (x y : ByteArray) (hpm : 0 < s.size) (him : (1 : Int) ≤ (s.size : Int)) (hjm : (s.size : Int) ≤ 40000) (hbm : ∀ h, (((((s[s.size - 1]'h).toNat) : Nat) : Int) == 34) = true) (hem : s.extract 0 (s.size - 1) = s1) (hpk : 0 < s1.size) (hik : (1 : Int) ≤ (s1.size : Int)) (hjk : (s1.size : Int) ≤ 40000) (hbk : ∀ h, (((((s1[s1.size - 1]'h).toNat) : Nat) : Int) == 39) = false) (HM : Hid (MemIs s (-1))) (HC : Hid (RCutIs s ⟨#[46]⟩ x y false)) (HI : Hid (IdxIs As.ops 12 s1 (-1))) :
    Calls Tryz.prog 18 #[.string s] w fun e w' => e = .returned (.tuple #[.agg #[.int .i64 0, .bool false, .bool true, .int .i64 0, .int .i64 0, .int .i64 0, .int .i64 (-1), .int .i64 0], .bool false]) ∧ ∃ g, w' = more w g := by
  go_enter Tryz.func18, Tryz.ntmps18
  go_wp2_with (first | (go_at_call 38; first | ((with_reducible refine (HM.out _ _ ?_).mono ?_); (focus (refine As.at_new _ _ _ ?_; simp [As.sz3]; done)); rintro e w2 ⟨rfl, rfl⟩) | ((with_reducible refine (HI.out _ _ ?_).mono ?_); (focus (refine As.at_new _ _ _ ?_; simp [As.sz3, more_size]; done)); rintro e w2 ⟨rfl, rfl⟩)) | (go_at_call 17; (with_reducible refine (HC.out _).mono ?_); rintro e w2 ⟨rfl, g, rfl⟩) | (go_at_call 40; (with_reducible refine (rops_any _).mono ?_); rintro e w2 ⟨rfl, rfl⟩))
  go_region
  go_wp2_with (first | (go_at_call 38; first | ((with_reducible refine (HM.out _ _ ?_).mono ?_); (focus (refine As.at_new _ _ _ ?_; simp [As.sz3]; done)); rintro e w2 ⟨rfl, rfl⟩) | ((with_reducible refine (HI.out _ _ ?_).mono ?_); (focus (refine As.at_new _ _ _ ?_; simp [As.sz3, more_size]; done)); rintro e w2 ⟨rfl, rfl⟩)) | (go_at_call 17; (with_reducible refine (HC.out _).mono ?_); rintro e w2 ⟨rfl, g, rfl⟩) | (go_at_call 40; (with_reducible refine (rops_any _).mono ?_); rintro e w2 ⟨rfl, rfl⟩))
  go_region
  go_wp2
  all_goals go_returns
  all_goals exact ⟨rfl, more_of_below (by repeat' (first | (with_reducible exact Below.refl _ _) | (with_reducible assumption) | (with_reducible refine below_more ?_ ?_ _) | (with_reducible refine below_drewN ?_ _) | (with_reducible refine Below.drew ?_) | (with_reducible refine Below.alloc ?_ ?_ _) | (with_reducible refine Below.setCell ?_ ?_ _) | go_size | (simp [more_size]; done) | (simp [more_size]; omega)))⟩
set_option maxRecDepth 100000 in
set_option maxHeartbeats 3200000 in
theorem rparts_opNTy (s : ByteArray) (w : World) (hs : s.size ≤ 40000) (s2 : ByteArray) (x y : ByteArray) (c : Int) (hc : 0 ≤ c) (hpm : 0 < s.size) (him : (1 : Int) ≤ (s.size : Int)) (hjm : (s.size : Int) ≤ 40000) (hbm : ∀ h, (((((s[s.size - 1]'h).toNat) : Nat) : Int) == 34) = false) (hbk : ∀ h, (((((s[s.size - 1]'h).toNat) : Nat) : Int) == 39) = true) (hek : s.extract 0 (s.size - 1) = s2) (HM : Hid (MemIs s (-1))) (HC : Hid (RCutIs s ⟨#[46]⟩ x y false)) (HI : Hid (IdxIs As.ops 12 s2 c)) :
    Calls Tryz.prog 18 #[.string s] w fun e w' => e = .returned (.tuple #[.agg #[.int .i64 0, .bool true, .bool false, .int .i64 0, .int .i64 0, .int .i64 0, .int .i64 c, .int .i64 0], .bool true]) ∧ ∃ g, w' = more w g := by
  go_enter Tryz.func18, Tryz.ntmps18
  go_wp2_with (first | (go_at_call 38; first | ((with_reducible refine (HM.out _ _ ?_).mono ?_); (focus (refine As.at_new _ _ _ ?_; simp [As.sz3]; done)); rintro e w2 ⟨rfl, rfl⟩) | ((with_reducible refine (HI.out _ _ ?_).mono ?_); (focus (refine As.at_new _ _ _ ?_; simp [As.sz3, more_size]; done)); rintro e w2 ⟨rfl, rfl⟩)) | (go_at_call 17; (with_reducible refine (HC.out _).mono ?_); rintro e w2 ⟨rfl, g, rfl⟩) | (go_at_call 40; (with_reducible refine (rops_any _).mono ?_); rintro e w2 ⟨rfl, rfl⟩))
  go_region
  go_wp2_with (first | (go_at_call 38; first | ((with_reducible refine (HM.out _ _ ?_).mono ?_); (focus (refine As.at_new _ _ _ ?_; simp [As.sz3]; done)); rintro e w2 ⟨rfl, rfl⟩) | ((with_reducible refine (HI.out _ _ ?_).mono ?_); (focus (refine As.at_new _ _ _ ?_; simp [As.sz3, more_size]; done)); rintro e w2 ⟨rfl, rfl⟩)) | (go_at_call 17; (with_reducible refine (HC.out _).mono ?_); rintro e w2 ⟨rfl, g, rfl⟩) | (go_at_call 40; (with_reducible refine (rops_any _).mono ?_); rintro e w2 ⟨rfl, rfl⟩))
  go_region
  go_wp2
  all_goals go_returns
  all_goals exact ⟨rfl, more_of_below (by repeat' (first | (with_reducible exact Below.refl _ _) | (with_reducible assumption) | (with_reducible refine below_more ?_ ?_ _) | (with_reducible refine below_drewN ?_ _) | (with_reducible refine Below.drew ?_) | (with_reducible refine Below.alloc ?_ ?_ _) | (with_reducible refine Below.setCell ?_ ?_ _) | go_size | (simp [more_size]; done) | (simp [more_size]; omega)))⟩
set_option maxRecDepth 100000 in
set_option maxHeartbeats 3200000 in
theorem rparts_opNTn (s : ByteArray) (w : World) (hs : s.size ≤ 40000) (s2 : ByteArray) (x y : ByteArray) (hpm : 0 < s.size) (him : (1 : Int) ≤ (s.size : Int)) (hjm : (s.size : Int) ≤ 40000) (hbm : ∀ h, (((((s[s.size - 1]'h).toNat) : Nat) : Int) == 34) = false) (hbk : ∀ h, (((((s[s.size - 1]'h).toNat) : Nat) : Int) == 39) = true) (hek : s.extract 0 (s.size - 1) = s2) (HM : Hid (MemIs s (-1))) (HC : Hid (RCutIs s ⟨#[46]⟩ x y false)) (HI : Hid (IdxIs As.ops 12 s2 (-1))) :
    Calls Tryz.prog 18 #[.string s] w fun e w' => e = .returned (.tuple #[.agg #[.int .i64 0, .bool true, .bool false, .int .i64 0, .int .i64 0, .int .i64 0, .int .i64 (-1), .int .i64 0], .bool false]) ∧ ∃ g, w' = more w g := by
  go_enter Tryz.func18, Tryz.ntmps18
  go_wp2_with (first | (go_at_call 38; first | ((with_reducible refine (HM.out _ _ ?_).mono ?_); (focus (refine As.at_new _ _ _ ?_; simp [As.sz3]; done)); rintro e w2 ⟨rfl, rfl⟩) | ((with_reducible refine (HI.out _ _ ?_).mono ?_); (focus (refine As.at_new _ _ _ ?_; simp [As.sz3, more_size]; done)); rintro e w2 ⟨rfl, rfl⟩)) | (go_at_call 17; (with_reducible refine (HC.out _).mono ?_); rintro e w2 ⟨rfl, g, rfl⟩) | (go_at_call 40; (with_reducible refine (rops_any _).mono ?_); rintro e w2 ⟨rfl, rfl⟩))
  go_region
  go_wp2_with (first | (go_at_call 38; first | ((with_reducible refine (HM.out _ _ ?_).mono ?_); (focus (refine As.at_new _ _ _ ?_; simp [As.sz3]; done)); rintro e w2 ⟨rfl, rfl⟩) | ((with_reducible refine (HI.out _ _ ?_).mono ?_); (focus (refine As.at_new _ _ _ ?_; simp [As.sz3, more_size]; done)); rintro e w2 ⟨rfl, rfl⟩)) | (go_at_call 17; (with_reducible refine (HC.out _).mono ?_); rintro e w2 ⟨rfl, g, rfl⟩) | (go_at_call 40; (with_reducible refine (rops_any _).mono ?_); rintro e w2 ⟨rfl, rfl⟩))
  go_region
  go_wp2
  all_goals go_returns
  all_goals exact ⟨rfl, more_of_below (by repeat' (first | (with_reducible exact Below.refl _ _) | (with_reducible assumption) | (with_reducible refine below_more ?_ ?_ _) | (with_reducible refine below_drewN ?_ _) | (with_reducible refine Below.drew ?_) | (with_reducible refine Below.alloc ?_ ?_ _) | (with_reducible refine Below.setCell ?_ ?_ _) | go_size | (simp [more_size]; done) | (simp [more_size]; omega)))⟩
set_option maxRecDepth 100000 in
set_option maxHeartbeats 3200000 in
theorem rparts_opNNy (s : ByteArray) (w : World) (hs : s.size ≤ 40000) (x y : ByteArray) (c : Int) (hc : 0 ≤ c) (hpm : 0 < s.size) (him : (1 : Int) ≤ (s.size : Int)) (hjm : (s.size : Int) ≤ 40000) (hbm : ∀ h, (((((s[s.size - 1]'h).toNat) : Nat) : Int) == 34) = false) (hbk : ∀ h, (((((s[s.size - 1]'h).toNat) : Nat) : Int) == 39) = false) (HM : Hid (MemIs s (-1))) (HC : Hid (RCutIs s ⟨#[46]⟩ x y false)) (HI : Hid (IdxIs As.ops 12 s c)) :
    Calls Tryz.prog 18 #[.string s] w fun e w' => e = .returned (.tuple #[.agg #[.int .i64 0, .bool false, .bool false, .int .i64 0, .int .i64 0, .int .i64 0, .int .i64 c, .int .i64 0], .bool true]) ∧ ∃ g, w' = more w g := by
  go_enter Tryz.func18, Tryz.ntmps18
  go_wp2_with (first | (go_at_call 38; first | ((with_reducible refine (HM.out _ _ ?_).mono ?_); (focus (refine As.at_new _ _ _ ?_; simp [As.sz3]; done)); rintro e w2 ⟨rfl, rfl⟩) | ((with_reducible refine (HI.out _ _ ?_).mono ?_); (focus (refine As.at_new _ _ _ ?_; simp [As.sz3, more_size]; done)); rintro e w2 ⟨rfl, rfl⟩)) | (go_at_call 17; (with_reducible refine (HC.out _).mono ?_); rintro e w2 ⟨rfl, g, rfl⟩) | (go_at_call 40; (with_reducible refine (rops_any _).mono ?_); rintro e w2 ⟨rfl, rfl⟩))
  go_region
  go_wp2
  all_goals go_returns
  all_goals exact ⟨rfl, more_of_below (by repeat' (first | (with_reducible exact Below.refl _ _) | (with_reducible assumption) | (with_reducible refine below_more ?_ ?_ _) | (with_reducible refine below_drewN ?_ _) | (with_reducible refine Below.drew ?_) | (with_reducible refine Below.alloc ?_ ?_ _) | (with_reducible refine Below.setCell ?_ ?_ _) | go_size | (simp [more_size]; done) | (simp [more_size]; omega)))⟩
set_option maxRecDepth 100000 in
set_option maxHeartbeats 3200000 in
theorem rparts_opNNn (s : ByteArray) (w : World) (hs : s.size ≤ 40000) (x y : ByteArray) (hpm : 0 < s.size) (him : (1 : Int) ≤ (s.size : Int)) (hjm : (s.size : Int) ≤ 40000) (hbm : ∀ h, (((((s[s.size - 1]'h).toNat) : Nat) : Int) == 34) = false) (hbk : ∀ h, (((((s[s.size - 1]'h).toNat) : Nat) : Int) == 39) = false) (HM : Hid (MemIs s (-1))) (HC : Hid (RCutIs s ⟨#[46]⟩ x y false)) (HI : Hid (IdxIs As.ops 12 s (-1))) :
    Calls Tryz.prog 18 #[.string s] w fun e w' => e = .returned (.tuple #[.agg #[.int .i64 0, .bool false, .bool false, .int .i64 0, .int .i64 0, .int .i64 0, .int .i64 (-1), .int .i64 0], .bool false]) ∧ ∃ g, w' = more w g := by
  go_enter Tryz.func18, Tryz.ntmps18
  go_wp2_with (first | (go_at_call 38; first | ((with_reducible refine (HM.out _ _ ?_).mono ?_); (focus (refine As.at_new _ _ _ ?_; simp [As.sz3]; done)); rintro e w2 ⟨rfl, rfl⟩) | ((with_reducible refine (HI.out _ _ ?_).mono ?_); (focus (refine As.at_new _ _ _ ?_; simp [As.sz3, more_size]; done)); rintro e w2 ⟨rfl, rfl⟩)) | (go_at_call 17; (with_reducible refine (HC.out _).mono ?_); rintro e w2 ⟨rfl, g, rfl⟩) | (go_at_call 40; (with_reducible refine (rops_any _).mono ?_); rintro e w2 ⟨rfl, rfl⟩))
  go_region
  go_wp2
  all_goals go_returns
  all_goals exact ⟨rfl, more_of_below (by repeat' (first | (with_reducible exact Below.refl _ _) | (with_reducible assumption) | (with_reducible refine below_more ?_ ?_ _) | (with_reducible refine below_drewN ?_ _) | (with_reducible refine Below.drew ?_) | (with_reducible refine Below.alloc ?_ ?_ _) | (with_reducible refine Below.setCell ?_ ?_ _) | go_size | (simp [more_size]; done) | (simp [more_size]; omega)))⟩
set_option maxRecDepth 100000 in
set_option maxHeartbeats 3200000 in
theorem rparts_opEEy (s : ByteArray) (w : World) (hs : s.size ≤ 40000) (x y : ByteArray) (c : Int) (hc : 0 ≤ c) (hzm : s.size = 0)  (HM : Hid (MemIs s (-1))) (HC : Hid (RCutIs s ⟨#[46]⟩ x y false)) (HI : Hid (IdxIs As.ops 12 s c)) :
    Calls Tryz.prog 18 #[.string s] w fun e w' => e = .returned (.tuple #[.agg #[.int .i64 0, .bool false, .bool false, .int .i64 0, .int .i64 0, .int .i64 0, .int .i64 c, .int .i64 0], .bool true]) ∧ ∃ g, w' = more w g := by
  go_enter Tryz.func18, Tryz.ntmps18
  go_wp2_with (first | (go_at_call 38; first | ((with_reducible refine (HM.out _ _ ?_).mono ?_); (focus (refine As.at_new _ _ _ ?_; simp [As.sz3]; done)); rintro e w2 ⟨rfl, rfl⟩) | ((with_reducible refine (HI.out _ _ ?_).mono ?_); (focus (refine As.at_new _ _ _ ?_; simp [As.sz3, more_size]; done)); rintro e w2 ⟨rfl, rfl⟩)) | (go_at_call 17; (with_reducible refine (HC.out _).mono ?_); rintro e w2 ⟨rfl, g, rfl⟩) | (go_at_call 40; (with_reducible refine (rops_any _).mono ?_); rintro e w2 ⟨rfl, rfl⟩))
  go_region
  go_wp2
  all_goals go_returns
  all_goals exact ⟨rfl, more_of_below (by repeat' (first | (with_reducible exact Below.refl _ _) | (with_reducible assumption) | (with_reducible refine below_more ?_ ?_ _) | (with_reducible refine below_drewN ?_ _) | (with_reducible refine Below.drew ?_) | (with_reducible refine Below.alloc ?_ ?_ _) | (with_reducible refine Below.setCell ?_ ?_ _) | go_size | (simp [more_size]; done) | (simp [more_size]; omega)))⟩
set_option maxRecDepth 100000 in
set_option maxHeartbeats 3200000 in
theorem rparts_opEEn (s : ByteArray) (w : World) (hs : s.size ≤ 40000) (x y : ByteArray) (hzm : s.size = 0)  (HM : Hid (MemIs s (-1))) (HC : Hid (RCutIs s ⟨#[46]⟩ x y false)) (HI : Hid (IdxIs As.ops 12 s (-1))) :
    Calls Tryz.prog 18 #[.string s] w fun e w' => e = .returned (.tuple #[.agg #[.int .i64 0, .bool false, .bool false, .int .i64 0, .int .i64 0, .int .i64 0, .int .i64 (-1), .int .i64 0], .bool false]) ∧ ∃ g, w' = more w g := by
  go_enter Tryz.func18, Tryz.ntmps18
  go_wp2_with (first | (go_at_call 38; first | ((with_reducible refine (HM.out _ _ ?_).mono ?_); (focus (refine As.at_new _ _ _ ?_; simp [As.sz3]; done)); rintro e w2 ⟨rfl, rfl⟩) | ((with_reducible refine (HI.out _ _ ?_).mono ?_); (focus (refine As.at_new _ _ _ ?_; simp [As.sz3, more_size]; done)); rintro e w2 ⟨rfl, rfl⟩)) | (go_at_call 17; (with_reducible refine (HC.out _).mono ?_); rintro e w2 ⟨rfl, g, rfl⟩) | (go_at_call 40; (with_reducible refine (rops_any _).mono ?_); rintro e w2 ⟨rfl, rfl⟩))
  go_region
  go_wp2
  all_goals go_returns
  all_goals exact ⟨rfl, more_of_below (by repeat' (first | (with_reducible exact Below.refl _ _) | (with_reducible assumption) | (with_reducible refine below_more ?_ ?_ _) | (with_reducible refine below_drewN ?_ _) | (with_reducible refine Below.drew ?_) | (with_reducible refine Below.alloc ?_ ?_ _) | (with_reducible refine Below.setCell ?_ ?_ _) | go_size | (simp [more_size]; done) | (simp [more_size]; omega)))⟩
end Go.Proofs.YtcckbmmjklahfaaGreatDoor

namespace Go.Proofs.YtcckbmmjklahfaaGreatDoor
set_option linter.all false
open Go.RowKit
namespace As
/-- what parts tells -/
def PRet (nm : List UInt8) (e : Ending) : Prop := (∃ x, partsR nm = some x ∧ e = .returned (.tuple #[iv x, .bool true])) ∨ (partsR nm = none ∧ ∃ x, e = .returned (.tuple #[iv x, .bool false]))
theorem find_cases (l : List (List UInt8)) (s : List UInt8) : find l s = -1 ∨ ∃ i : Nat, i < l.length ∧ find l s = i := by
  unfold find
  cases h : l.findIdx? (· == s) with
  | none => exact .inl rfl
  | some i => exact .inr ⟨i, (List.findIdx?_eq_some_iff_getElem.1 h).1, rfl⟩
theorem last_eq (s : ByteArray) (h : 0 < s.size) : s.data.toList.getLast? = some (s[s.size - 1]'(by omega)) := by
  rw [List.getLast?_eq_getElem?]
  have hl : s.data.toList.length = s.size := by simp
  rw [hl, List.getElem?_eq_getElem (by omega)]
  rfl
theorem drop_last (s : ByteArray) : (s.extract 0 (s.size - 1)).data.toList = s.data.toList.dropLast := by
  have hl : s.data.toList.length = s.size := by simp
  simp [ByteArray.data_extract, List.extract_eq_take_drop, List.dropLast_eq_take]
theorem chop_yes {s : ByteArray} {c : UInt8} (h : 0 < s.size) (hb : s[s.size - 1]'(by omega) = c) : chop c s.data.toList = ((s.extract 0 (s.size - 1)).data.toList, true) := by
  unfold chop
  rw [last_eq s h, hb, if_pos rfl, drop_last]
theorem chop_no {s : ByteArray} {c : UInt8} (h : 0 < s.size) (hb : s[s.size - 1]'(by omega) ≠ c) : chop c s.data.toList = (s.data.toList, false) := by
  unfold chop
  rw [last_eq s h, if_neg (by simpa using hb)]
theorem chop_empty {s : ByteArray} {c : UInt8} (h : s.size = 0) : chop c s.data.toList = (s.data.toList, false) := by
  have : s.data.toList = [] := List.eq_nil_of_length_eq_zero (by simpa using h)
  unfold chop
  rw [this]; rfl
theorem byte_yes {b c : UInt8} (n : Nat) (hn : c.toNat = n) (h : b = c) : (((b.toNat : Nat) : Int) == (n : Int)) = true := by subst h; rw [hn]; simp
theorem byte_no {b c : UInt8} (n : Nat) (hn : c.toNat = n) (h : b ≠ c) : (((b.toNat : Nat) : Int) == (n : Int)) = false := by
  rw [beq_eq_false_iff_ne]
  intro e
  exact h (UInt8.toNat_inj.1 (by omega))
end As
theorem rcut_is (s sep : ByteArray) (hs : s.size ≤ 40000) (hp : 0 < sep.size) (hp2 : sep.size ≤ 10) : RCutIs s sep ⟨(Lib.cut s.data.toList sep.data.toList).1.toArray⟩ ⟨(Lib.cut s.data.toList sep.data.toList).2.1.toArray⟩ (Lib.cut s.data.toList sep.data.toList).2.2 := fun w =>
  (rcut_any s sep w hs hp hp2).mono fun e w' ⟨⟨a, b, c, he, hc⟩, hw⟩ => ⟨by
    rw [he, hc], hw⟩
theorem As.ops_find {s2 : ByteArray} {nm s1 : List UInt8} {u v : Bool} (hm : As.find As.mems nm = -1) (hc : (Lib.cut nm [46]).2.2 = false) (hv : As.chop 34 nm = (s1, v)) (hu : As.chop 39 s1 = (s2.data.toList, u)) :
    As.partsR nm = if 0 ≤ As.find As.ops s2.data.toList then some ⟨0, u, v, 0, 0, 0, As.find As.ops s2.data.toList, 0⟩ else none := by
  unfold As.partsR
  rw [hm, if_neg (by decide)]
  simp only [hc, hv, hu]
  simp
abbrev RPartsIs (nm : ByteArray) (x : As.Ins) (b : Bool) : Prop := ∀ w : World, Calls Tryz.prog 18 #[.string nm] w fun e w' => e = .returned (.tuple #[As.iv x, .bool b]) ∧ ∃ g, w' = more w g
theorem rparts_is (s : ByteArray) (hs : s.size ≤ 40000) : (∃ x, As.partsR s.data.toList = some x ∧ RPartsIs s x true) ∨ (As.partsR s.data.toList = none ∧ ∃ x, RPartsIs s x false) := by
  have HM := mem_is s
  rcases As.find_cases As.mems s.data.toList with hm | ⟨i, hi, hm⟩
  · rw [hm] at HM
    have HC := rcut_is s ⟨#[46]⟩ hs (by decide) (by decide)
    cases hc : (Lib.cut s.data.toList [46]).2.2
    · have HC2 : RCutIs s ⟨#[46]⟩ ⟨(Lib.cut s.data.toList [46]).1.toArray⟩ ⟨(Lib.cut s.data.toList [46]).2.1.toArray⟩ false := by
        have := HC
        simp only [hc] at this
        exact this
      have fin : ∀ (s1 s2 : ByteArray) (u v : Bool), As.chop 34 s.data.toList = (s1.data.toList, v) → As.chop 39 s1.data.toList = (s2.data.toList, u) →
          (∀ c : Int, 0 ≤ c → IdxIs As.ops 12 s2 c → RPartsIs s ⟨0, u, v, 0, 0, 0, c, 0⟩ true) →
          (IdxIs As.ops 12 s2 (-1) → RPartsIs s ⟨0, u, v, 0, 0, 0, (-1), 0⟩ false) →
          (∃ x, As.partsR s.data.toList = some x ∧ RPartsIs s x true) ∨ (As.partsR s.data.toList = none ∧ ∃ x, RPartsIs s x false) := fun s1 s2 u v hv hu A B => by
        have hP := As.ops_find hm hc hv hu
        have HI := idx_ops s2
        rcases As.find_cases As.ops s2.data.toList with ho | ⟨j, hj, ho⟩
        · rw [ho] at HI hP
          rw [if_neg (by decide)] at hP
          exact .inr ⟨hP, _, B HI⟩
        · rw [ho] at HI hP
          rw [if_pos (by omega)] at hP
          exact .inl ⟨_, hP, A j (by omega) HI⟩
      rcases Nat.eq_zero_or_pos s.size with h0 | h0
      · exact fin s s false false (As.chop_empty h0) (As.chop_empty h0) (fun c hc0 HI => fun w => rparts_opEEy s w hs _ _ c hc0 h0 (Lib.hid HM) (Lib.hid HC2) (Lib.hid HI)) (fun HI => fun w => rparts_opEEn s w hs _ _ h0 (Lib.hid HM) (Lib.hid HC2) (Lib.hid HI))
      · have hi1 : (1 : Int) ≤ (s.size : Int) := by omega
        have hi2 : (s.size : Int) ≤ 40000 := by omega
        by_cases hv : s[s.size - 1]'(by omega) = 34
        · have hvb := As.byte_yes 34 rfl hv
          obtain ⟨s1, hs1⟩ : ∃ s1, s.extract 0 (s.size - 1) = s1 := ⟨_, rfl⟩
          have hcv := As.chop_yes h0 hv
          rw [hs1] at hcv
          have hz1 : s1.size = s.size - 1 := by rw [← hs1]; simp [ByteArray.size_extract]
          rcases Nat.eq_zero_or_pos s1.size with h1 | h1
          · exact fin s1 s1 false true hcv (As.chop_empty h1) (fun c hc0 HI => fun w => rparts_opTEy s w hs s1 _ _ c hc0 h0 hi1 hi2 (fun _ => hvb) hs1 h1 (Lib.hid HM) (Lib.hid HC2) (Lib.hid HI)) (fun HI => fun w => rparts_opTEn s w hs s1 _ _ h0 hi1 hi2 (fun _ => hvb) hs1 h1 (Lib.hid HM) (Lib.hid HC2) (Lib.hid HI))
          · have hk1 : (1 : Int) ≤ (s1.size : Int) := by omega
            have hk2 : (s1.size : Int) ≤ 40000 := by omega
            by_cases hu : s1[s1.size - 1]'(by omega) = 39
            · have hub := As.byte_yes 39 rfl hu
              obtain ⟨s2, hs2⟩ : ∃ s2, s1.extract 0 (s1.size - 1) = s2 := ⟨_, rfl⟩
              have hcu := As.chop_yes h1 hu
              rw [hs2] at hcu
              exact fin s1 s2 true true hcv hcu (fun c hc0 HI => fun w => rparts_opTTy s w hs s1 s2 _ _ c hc0 h0 hi1 hi2 (fun _ => hvb) hs1 h1 hk1 hk2 (fun _ => hub) hs2 (Lib.hid HM) (Lib.hid HC2) (Lib.hid HI)) (fun HI => fun w => rparts_opTTn s w hs s1 s2 _ _ h0 hi1 hi2 (fun _ => hvb) hs1 h1 hk1 hk2 (fun _ => hub) hs2 (Lib.hid HM) (Lib.hid HC2) (Lib.hid HI))
            · have hub := As.byte_no 39 rfl hu
              exact fin s1 s1 false true hcv (As.chop_no h1 hu) (fun c hc0 HI => fun w => rparts_opTNy s w hs s1 _ _ c hc0 h0 hi1 hi2 (fun _ => hvb) hs1 h1 hk1 hk2 (fun _ => hub) (Lib.hid HM) (Lib.hid HC2) (Lib.hid HI)) (fun HI => fun w => rparts_opTNn s w hs s1 _ _ h0 hi1 hi2 (fun _ => hvb) hs1 h1 hk1 hk2 (fun _ => hub) (Lib.hid HM) (Lib.hid HC2) (Lib.hid HI))
        · have hvb := As.byte_no 34 rfl hv
          have hcv := As.chop_no h0 hv
          by_cases hu : s[s.size - 1]'(by omega) = 39
          · have hub := As.byte_yes 39 rfl hu
            obtain ⟨s2, hs2⟩ : ∃ s2, s.extract 0 (s.size - 1) = s2 := ⟨_, rfl⟩
            have hcu := As.chop_yes h0 hu
            rw [hs2] at hcu
            exact fin s s2 true false hcv hcu (fun c hc0 HI => fun w => rparts_opNTy s w hs s2 _ _ c hc0 h0 hi1 hi2 (fun _ => hvb) (fun _ => hub) hs2 (Lib.hid HM) (Lib.hid HC2) (Lib.hid HI)) (fun HI => fun w => rparts_opNTn s w hs s2 _ _ h0 hi1 hi2 (fun _ => hvb) (fun _ => hub) hs2 (Lib.hid HM) (Lib.hid HC2) (Lib.hid HI))
          · have hub := As.byte_no 39 rfl hu
            exact fin s s false false hcv (As.chop_no h0 hu) (fun c hc0 HI => fun w => rparts_opNNy s w hs _ _ c hc0 h0 hi1 hi2 (fun _ => hvb) (fun _ => hub) (Lib.hid HM) (Lib.hid HC2) (Lib.hid HI)) (fun HI => fun w => rparts_opNNn s w hs _ _ h0 hi1 hi2 (fun _ => hvb) (fun _ => hub) (Lib.hid HM) (Lib.hid HC2) (Lib.hid HI))
    · obtain ⟨a, hA⟩ : ∃ a, (Lib.cut s.data.toList [46]).1 = a := ⟨_, rfl⟩
      obtain ⟨b, hB⟩ : ∃ b, (Lib.cut s.data.toList [46]).2.1 = b := ⟨_, rfl⟩
      have hP : As.partsR s.data.toList = if 0 ≤ As.find As.conds b ∧ (a = [66] ∨ a = [66, 76]) then some ⟨3, false, decide (a = [66, 76]), As.find As.conds b, 0, 0, 0, 0⟩ else none := by
        unfold As.partsR
        rw [hm, if_neg (by decide)]
        simp only [hc, hA, hB, if_true]
      have HC2 : RCutIs s ⟨#[46]⟩ ⟨a.toArray⟩ ⟨b.toArray⟩ true := by
        have := HC
        simp only [hA, hB, hc] at this
        exact this
      have HI := idx_conds ⟨b.toArray⟩
      have hbb : (⟨b.toArray⟩ : ByteArray).data.toList = b := rfl
      rw [hbb] at HI
      rcases As.find_cases As.conds b with ho | ⟨j, hj, ho⟩
      · rw [ho] at HI hP
        rw [if_neg (by omega)] at hP
        exact .inr ⟨hP, ⟨3, false, _, -1, 0, 0, 0, 0⟩, fun w => rparts_bn s w hs ⟨a.toArray⟩ ⟨b.toArray⟩ _ rfl (Lib.hid HM) (Lib.hid HC2) (Lib.hid HI)⟩
      · rw [ho] at HI hP
        by_cases h1 : a = [66]
        · rw [if_pos ⟨by omega, .inl h1⟩] at hP
          subst h1
          refine .inl ⟨_, hP, fun w => ?_⟩
          exact rparts_b s w hs ⟨b.toArray⟩ j (by omega) (Lib.hid HM) (Lib.hid HC2) (Lib.hid HI)
        · by_cases h2 : a = [66, 76]
          · rw [if_pos ⟨by omega, .inr h2⟩] at hP
            subst h2
            refine .inl ⟨_, hP, fun w => ?_⟩
            exact rparts_bl s w hs ⟨b.toArray⟩ j (by omega) (Lib.hid HM) (Lib.hid HC2) (Lib.hid HI)
          · rw [if_neg (by rintro ⟨_, h | h⟩; exact h1 h; exact h2 h)] at hP
            refine .inr ⟨hP, ⟨3, false, false, j, 0, 0, 0, 0⟩, fun w => rparts_bx s w hs ⟨a.toArray⟩ ⟨b.toArray⟩ j ?_ ?_ (Lib.hid HM) (Lib.hid HC2) (Lib.hid HI)⟩
            · rw [ByteArray.toList_eq, beq_eq_false_iff_ne]; simpa using h1
            · rw [ByteArray.toList_eq, beq_eq_false_iff_ne]; simpa using h2
  · have hP : As.partsR s.data.toList = some ⟨2, decide (1 < (i : Int)), decide ((i : Int) % 2 = 1), 0, 0, 0, 0, 0⟩ := by
      unfold As.partsR
      rw [hm, if_pos (by omega)]
    rw [hm] at HM
    have hi4 : i = 0 ∨ i = 1 ∨ i = 2 ∨ i = 3 := by
      have : As.mems.length = 4 := rfl
      omega
    rcases hi4 with rfl | rfl | rfl | rfl
    · exact .inl ⟨_, hP, fun w => rparts_mem0 s w hs (Lib.hid HM)⟩
    · exact .inl ⟨_, hP, fun w => rparts_mem1 s w hs (Lib.hid HM)⟩
    · exact .inl ⟨_, hP, fun w => rparts_mem2 s w hs (Lib.hid HM)⟩
    · exact .inl ⟨_, hP, fun w => rparts_mem3 s w hs (Lib.hid HM)⟩
end Go.Proofs.YtcckbmmjklahfaaGreatDoor
