/- The walk of the document's parts: what a name stands for. Conditions: the name is not too long. -/
import Derived.Test.YtcckbmmjklahfaaGreatDoorAsM
import Derived.Test.YtcckbmmjklahfaaGreatDoorAsC
namespace Go.Proofs.YtcckbmmjklahfaaGreatDoor
set_option linter.all false
open Go.RowKit
namespace As
theorem at_new (W : World) (o : Obj) (p : Nat) (hp : p = W.heap.size) : (W.alloc o).heap[p]? = some o := by subst hp; exact (MapKept.heap_alloc W o).1
end As
abbrev memCells : Array Value := #[.string ⟨#[76, 68, 82]⟩, .string ⟨#[76, 68, 66]⟩, .string ⟨#[83, 84, 82]⟩, .string ⟨#[83, 84, 66]⟩]
abbrev IdxIs (l : List (List UInt8)) (n : Nat) (s : ByteArray) (k : Int) : Prop := ∀ (b : Nat) (w : World), w.heap[b]? = some (.cells (As.scs l) 9 (0, 0)) → Calls Tryz.prog 38 #[.slice (some ⟨b, 0, none⟩) n n, .string s] w fun e w' => e = .returned (.int .i64 k) ∧ w' = w
abbrev MemIs (s : ByteArray) (k : Int) : Prop := ∀ (b : Nat) (w : World), w.heap[b]? = some (.cells memCells 9 (0, 0)) → Calls Tryz.prog 38 #[.slice (some ⟨b, 0, none⟩) 4 4, .string s] w fun e w' => e = .returned (.int .i64 k) ∧ w' = w
theorem mem_is (s : ByteArray) : MemIs s (As.find As.mems s.data.toList) := fun b w hb => rindex_any As.mems s b 4 w (by decide) (by decide) hb
theorem idx_ops (s : ByteArray) : IdxIs As.ops 12 s (As.find As.ops s.data.toList) := fun b w hb => rindex_any As.ops s b 12 w (by decide) (by decide) hb
theorem idx_conds (s : ByteArray) : IdxIs As.conds 16 s (As.find As.conds s.data.toList) := fun b w hb => rindex_any As.conds s b 16 w (by decide) (by decide) hb
abbrev RCutIs (s sep a b : ByteArray) (c : Bool) : Prop := ∀ w : World, Calls Tryz.prog 17 #[.string s, .string sep] w fun e w' => e = .returned (.tuple #[.string a, .string b, .bool c]) ∧ ∃ g, w' = more w g
set_option maxRecDepth 100000 in
set_option maxHeartbeats 3200000 in
theorem rparts_mem0 (s : ByteArray) (w : World) (hs : s.size ≤ 40000) (HM : Hid (MemIs s 0)) :
    Calls Tryz.prog 18 #[.string s] w fun e w' => e = .returned (.tuple #[.agg #[.int .i64 2, .bool false, .bool false, .int .i64 0, .int .i64 0, .int .i64 0, .int .i64 0, .int .i64 0], .bool true]) ∧ ∃ g, w' = more w g := by
  go_enter Tryz.func18, Tryz.ntmps18
  go_wp2_with (first | (go_at_call 38; first | ((with_reducible refine (HM.out _ _ ?_).mono ?_); (focus (refine As.at_new _ _ _ ?_; simp [As.sz3]; done)); rintro e w2 ⟨rfl, rfl⟩) | ((with_reducible refine (HI.out _ _ ?_).mono ?_); (focus (refine As.at_new _ _ _ ?_; simp [As.sz3, more_size]; done)); rintro e w2 ⟨rfl, rfl⟩)) | (go_at_call 17; (with_reducible refine (HC.out _).mono ?_); rintro e w2 ⟨rfl, g, rfl⟩) | (go_at_call 39; (with_reducible refine (rconds_any _).mono ?_); rintro e w2 ⟨rfl, rfl⟩) | (go_at_call 40; (with_reducible refine (rops_any _).mono ?_); rintro e w2 ⟨rfl, rfl⟩))
  all_goals go_returns
  all_goals exact ⟨rfl, more_of_below (by repeat' (first | (with_reducible exact Below.refl _ _) | (with_reducible assumption) | (with_reducible refine below_more ?_ ?_ _) | (with_reducible refine below_drewN ?_ _) | (with_reducible refine Below.drew ?_) | (with_reducible refine Below.alloc ?_ ?_ _) | (with_reducible refine Below.setCell ?_ ?_ _) | go_size | (simp [more_size]; done) | (simp [more_size]; omega)))⟩
set_option maxRecDepth 100000 in
set_option maxHeartbeats 3200000 in
theorem rparts_mem1 (s : ByteArray) (w : World) (hs : s.size ≤ 40000) (HM : Hid (MemIs s 1)) :
    Calls Tryz.prog 18 #[.string s] w fun e w' => e = .returned (.tuple #[.agg #[.int .i64 2, .bool false, .bool true, .int .i64 0, .int .i64 0, .int .i64 0, .int .i64 0, .int .i64 0], .bool true]) ∧ ∃ g, w' = more w g := by
  go_enter Tryz.func18, Tryz.ntmps18
  go_wp2_with (first | (go_at_call 38; first | ((with_reducible refine (HM.out _ _ ?_).mono ?_); (focus (refine As.at_new _ _ _ ?_; simp [As.sz3]; done)); rintro e w2 ⟨rfl, rfl⟩) | ((with_reducible refine (HI.out _ _ ?_).mono ?_); (focus (refine As.at_new _ _ _ ?_; simp [As.sz3, more_size]; done)); rintro e w2 ⟨rfl, rfl⟩)) | (go_at_call 17; (with_reducible refine (HC.out _).mono ?_); rintro e w2 ⟨rfl, g, rfl⟩) | (go_at_call 39; (with_reducible refine (rconds_any _).mono ?_); rintro e w2 ⟨rfl, rfl⟩) | (go_at_call 40; (with_reducible refine (rops_any _).mono ?_); rintro e w2 ⟨rfl, rfl⟩))
  all_goals go_returns
  all_goals exact ⟨rfl, more_of_below (by repeat' (first | (with_reducible exact Below.refl _ _) | (with_reducible assumption) | (with_reducible refine below_more ?_ ?_ _) | (with_reducible refine below_drewN ?_ _) | (with_reducible refine Below.drew ?_) | (with_reducible refine Below.alloc ?_ ?_ _) | (with_reducible refine Below.setCell ?_ ?_ _) | go_size | (simp [more_size]; done) | (simp [more_size]; omega)))⟩
set_option maxRecDepth 100000 in
set_option maxHeartbeats 3200000 in
theorem rparts_mem2 (s : ByteArray) (w : World) (hs : s.size ≤ 40000) (HM : Hid (MemIs s 2)) :
    Calls Tryz.prog 18 #[.string s] w fun e w' => e = .returned (.tuple #[.agg #[.int .i64 2, .bool true, .bool false, .int .i64 0, .int .i64 0, .int .i64 0, .int .i64 0, .int .i64 0], .bool true]) ∧ ∃ g, w' = more w g := by
  go_enter Tryz.func18, Tryz.ntmps18
  go_wp2_with (first | (go_at_call 38; first | ((with_reducible refine (HM.out _ _ ?_).mono ?_); (focus (refine As.at_new _ _ _ ?_; simp [As.sz3]; done)); rintro e w2 ⟨rfl, rfl⟩) | ((with_reducible refine (HI.out _ _ ?_).mono ?_); (focus (refine As.at_new _ _ _ ?_; simp [As.sz3, more_size]; done)); rintro e w2 ⟨rfl, rfl⟩)) | (go_at_call 17; (with_reducible refine (HC.out _).mono ?_); rintro e w2 ⟨rfl, g, rfl⟩) | (go_at_call 39; (with_reducible refine (rconds_any _).mono ?_); rintro e w2 ⟨rfl, rfl⟩) | (go_at_call 40; (with_reducible refine (rops_any _).mono ?_); rintro e w2 ⟨rfl, rfl⟩))
  all_goals go_returns
  all_goals exact ⟨rfl, more_of_below (by repeat' (first | (with_reducible exact Below.refl _ _) | (with_reducible assumption) | (with_reducible refine below_more ?_ ?_ _) | (with_reducible refine below_drewN ?_ _) | (with_reducible refine Below.drew ?_) | (with_reducible refine Below.alloc ?_ ?_ _) | (with_reducible refine Below.setCell ?_ ?_ _) | go_size | (simp [more_size]; done) | (simp [more_size]; omega)))⟩
set_option maxRecDepth 100000 in
set_option maxHeartbeats 3200000 in
theorem rparts_mem3 (s : ByteArray) (w : World) (hs : s.size ≤ 40000) (HM : Hid (MemIs s 3)) :
    Calls Tryz.prog 18 #[.string s] w fun e w' => e = .returned (.tuple #[.agg #[.int .i64 2, .bool true, .bool true, .int .i64 0, .int .i64 0, .int .i64 0, .int .i64 0, .int .i64 0], .bool true]) ∧ ∃ g, w' = more w g := by
  go_enter Tryz.func18, Tryz.ntmps18
  go_wp2_with (first | (go_at_call 38; first | ((with_reducible refine (HM.out _ _ ?_).mono ?_); (focus (refine As.at_new _ _ _ ?_; simp [As.sz3]; done)); rintro e w2 ⟨rfl, rfl⟩) | ((with_reducible refine (HI.out _ _ ?_).mono ?_); (focus (refine As.at_new _ _ _ ?_; simp [As.sz3, more_size]; done)); rintro e w2 ⟨rfl, rfl⟩)) | (go_at_call 17; (with_reducible refine (HC.out _).mono ?_); rintro e w2 ⟨rfl, g, rfl⟩) | (go_at_call 39; (with_reducible refine (rconds_any _).mono ?_); rintro e w2 ⟨rfl, rfl⟩) | (go_at_call 40; (with_reducible refine (rops_any _).mono ?_); rintro e w2 ⟨rfl, rfl⟩))
  all_goals go_returns
  all_goals exact ⟨rfl, more_of_below (by repeat' (first | (with_reducible exact Below.refl _ _) | (with_reducible assumption) | (with_reducible refine below_more ?_ ?_ _) | (with_reducible refine below_drewN ?_ _) | (with_reducible refine Below.drew ?_) | (with_reducible refine Below.alloc ?_ ?_ _) | (with_reducible refine Below.setCell ?_ ?_ _) | go_size | (simp [more_size]; done) | (simp [more_size]; omega)))⟩
set_option maxRecDepth 100000 in
set_option maxHeartbeats 3200000 in
theorem rparts_b (s : ByteArray) (w : World) (hs : s.size ≤ 40000) (b : ByteArray) (c : Int) (hc : 0 ≤ c) (HM : Hid (MemIs s (-1))) (HC : Hid (RCutIs s ⟨#[46]⟩ ⟨#[66]⟩ b true)) (HI : Hid (IdxIs As.conds 16 b c)) :
    Calls Tryz.prog 18 #[.string s] w fun e w' => e = .returned (.tuple #[.agg #[.int .i64 3, .bool false, .bool false, .int .i64 c, .int .i64 0, .int .i64 0, .int .i64 0, .int .i64 0], .bool true]) ∧ ∃ g, w' = more w g := by
  go_enter Tryz.func18, Tryz.ntmps18
  go_wp2_with (first | (go_at_call 38; first | ((with_reducible refine (HM.out _ _ ?_).mono ?_); (focus (refine As.at_new _ _ _ ?_; simp [As.sz3]; done)); rintro e w2 ⟨rfl, rfl⟩) | ((with_reducible refine (HI.out _ _ ?_).mono ?_); (focus (refine As.at_new _ _ _ ?_; simp [As.sz3, more_size]; done)); rintro e w2 ⟨rfl, rfl⟩)) | (go_at_call 17; (with_reducible refine (HC.out _).mono ?_); rintro e w2 ⟨rfl, g, rfl⟩) | (go_at_call 39; (with_reducible refine (rconds_any _).mono ?_); rintro e w2 ⟨rfl, rfl⟩) | (go_at_call 40; (with_reducible refine (rops_any _).mono ?_); rintro e w2 ⟨rfl, rfl⟩))
  all_goals go_returns
  all_goals exact ⟨rfl, more_of_below (by repeat' (first | (with_reducible exact Below.refl _ _) | (with_reducible assumption) | (with_reducible refine below_more ?_ ?_ _) | (with_reducible refine below_drewN ?_ _) | (with_reducible refine Below.drew ?_) | (with_reducible refine Below.alloc ?_ ?_ _) | (with_reducible refine Below.setCell ?_ ?_ _) | go_size | (simp [more_size]; done) | (simp [more_size]; omega)))⟩
set_option maxRecDepth 100000 in
set_option maxHeartbeats 3200000 in
theorem rparts_bl (s : ByteArray) (w : World) (hs : s.size ≤ 40000) (b : ByteArray) (c : Int) (hc : 0 ≤ c) (HM : Hid (MemIs s (-1))) (HC : Hid (RCutIs s ⟨#[46]⟩ ⟨#[66, 76]⟩ b true)) (HI : Hid (IdxIs As.conds 16 b c)) :
    Calls Tryz.prog 18 #[.string s] w fun e w' => e = .returned (.tuple #[.agg #[.int .i64 3, .bool false, .bool true, .int .i64 c, .int .i64 0, .int .i64 0, .int .i64 0, .int .i64 0], .bool true]) ∧ ∃ g, w' = more w g := by
  go_enter Tryz.func18, Tryz.ntmps18
  go_wp2_with (first | (go_at_call 38; first | ((with_reducible refine (HM.out _ _ ?_).mono ?_); (focus (refine As.at_new _ _ _ ?_; simp [As.sz3]; done)); rintro e w2 ⟨rfl, rfl⟩) | ((with_reducible refine (HI.out _ _ ?_).mono ?_); (focus (refine As.at_new _ _ _ ?_; simp [As.sz3, more_size]; done)); rintro e w2 ⟨rfl, rfl⟩)) | (go_at_call 17; (with_reducible refine (HC.out _).mono ?_); rintro e w2 ⟨rfl, g, rfl⟩) | (go_at_call 39; (with_reducible refine (rconds_any _).mono ?_); rintro e w2 ⟨rfl, rfl⟩) | (go_at_call 40; (with_reducible refine (rops_any _).mono ?_); rintro e w2 ⟨rfl, rfl⟩))
  all_goals go_returns
  all_goals exact ⟨rfl, more_of_below (by repeat' (first | (with_reducible exact Below.refl _ _) | (with_reducible assumption) | (with_reducible refine below_more ?_ ?_ _) | (with_reducible refine below_drewN ?_ _) | (with_reducible refine Below.drew ?_) | (with_reducible refine Below.alloc ?_ ?_ _) | (with_reducible refine Below.setCell ?_ ?_ _) | go_size | (simp [more_size]; done) | (simp [more_size]; omega)))⟩
set_option maxRecDepth 100000 in
set_option maxHeartbeats 3200000 in
theorem rparts_bx (s : ByteArray) (w : World) (hs : s.size ≤ 40000) (a b : ByteArray) (c : Int) (h1 : (a.toList == [66]) = false) (h2 : (a.toList == [66, 76]) = false) (HM : Hid (MemIs s (-1))) (HC : Hid (RCutIs s ⟨#[46]⟩ a b true)) (HI : Hid (IdxIs As.conds 16 b c)) :
    Calls Tryz.prog 18 #[.string s] w fun e w' => e = .returned (.tuple #[.agg #[.int .i64 3, .bool false, .bool false, .int .i64 c, .int .i64 0, .int .i64 0, .int .i64 0, .int .i64 0], .bool false]) ∧ ∃ g, w' = more w g := by
  go_enter Tryz.func18, Tryz.ntmps18
  go_wp2_with (first | (go_at_call 38; first | ((with_reducible refine (HM.out _ _ ?_).mono ?_); (focus (refine As.at_new _ _ _ ?_; simp [As.sz3]; done)); rintro e w2 ⟨rfl, rfl⟩) | ((with_reducible refine (HI.out _ _ ?_).mono ?_); (focus (refine As.at_new _ _ _ ?_; simp [As.sz3, more_size]; done)); rintro e w2 ⟨rfl, rfl⟩)) | (go_at_call 17; (with_reducible refine (HC.out _).mono ?_); rintro e w2 ⟨rfl, g, rfl⟩) | (go_at_call 39; (with_reducible refine (rconds_any _).mono ?_); rintro e w2 ⟨rfl, rfl⟩) | (go_at_call 40; (with_reducible refine (rops_any _).mono ?_); rintro e w2 ⟨rfl, rfl⟩))
  all_goals go_returns
  all_goals exact ⟨rfl, more_of_below (by repeat' (first | (with_reducible exact Below.refl _ _) | (with_reducible assumption) | (with_reducible refine below_more ?_ ?_ _) | (with_reducible refine below_drewN ?_ _) | (with_reducible refine Below.drew ?_) | (with_reducible refine Below.alloc ?_ ?_ _) | (with_reducible refine Below.setCell ?_ ?_ _) | go_size | (simp [more_size]; done) | (simp [more_size]; omega)))⟩
set_option maxRecDepth 100000 in
set_option maxHeartbeats 3200000 in
theorem rparts_bn (s : ByteArray) (w : World) (hs : s.size ≤ 40000) (a b : ByteArray) (V : Bool) (h2 : (a.toList == [66, 76]) = V) (HM : Hid (MemIs s (-1))) (HC : Hid (RCutIs s ⟨#[46]⟩ a b true)) (HI : Hid (IdxIs As.conds 16 b (-1))) :
    Calls Tryz.prog 18 #[.string s] w fun e w' => e = .returned (.tuple #[.agg #[.int .i64 3, .bool false, .bool V, .int .i64 (-1), .int .i64 0, .int .i64 0, .int .i64 0, .int .i64 0], .bool false]) ∧ ∃ g, w' = more w g := by
  go_enter Tryz.func18, Tryz.ntmps18
  go_wp2_with (first | (go_at_call 38; first | ((with_reducible refine (HM.out _ _ ?_).mono ?_); (focus (refine As.at_new _ _ _ ?_; simp [As.sz3]; done)); rintro e w2 ⟨rfl, rfl⟩) | ((with_reducible refine (HI.out _ _ ?_).mono ?_); (focus (refine As.at_new _ _ _ ?_; simp [As.sz3, more_size]; done)); rintro e w2 ⟨rfl, rfl⟩)) | (go_at_call 17; (with_reducible refine (HC.out _).mono ?_); rintro e w2 ⟨rfl, g, rfl⟩) | (go_at_call 39; (with_reducible refine (rconds_any _).mono ?_); rintro e w2 ⟨rfl, rfl⟩) | (go_at_call 40; (with_reducible refine (rops_any _).mono ?_); rintro e w2 ⟨rfl, rfl⟩))
  all_goals go_returns
  all_goals exact ⟨rfl, more_of_below (by repeat' (first | (with_reducible exact Below.refl _ _) | (with_reducible assumption) | (with_reducible refine below_more ?_ ?_ _) | (with_reducible refine below_drewN ?_ _) | (with_reducible refine Below.drew ?_) | (with_reducible refine Below.alloc ?_ ?_ _) | (with_reducible refine Below.setCell ?_ ?_ _) | go_size | (simp [more_size]; done) | (simp [more_size]; omega)))⟩
end Go.Proofs.YtcckbmmjklahfaaGreatDoor
