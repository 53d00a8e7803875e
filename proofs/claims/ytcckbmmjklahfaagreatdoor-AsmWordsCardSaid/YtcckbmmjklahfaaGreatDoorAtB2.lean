/- The walk of the document's parts: names of operations. Conditions: the name is not too long. -/
import Derived.Test.YtcckbmmjklahfaaGreatDoorAtB
namespace Go.Proofs.YtcckbmmjklahfaaGreatDoor
set_option linter.all false
open Go.RowKit
set_option maxRecDepth 100000 in
set_option maxHeartbeats 3200000 in
theorem rparts_opTTy (s : ByteArray) (w : World) (hs : s.size ≤ 40000) (s1 s2 : ByteArray) (x y : ByteArray) (c : Int) (hc : 0 ≤ c) (hpm : 0 < s.size) (him : (1 : Int) ≤ (s.size : Int)) (hjm : (s.size : Int) ≤ 40000) (hbm : ∀ h, (((((s[s.size - 1]'h).toNat) : Nat) : Int) == 34) = true) (hem : s.extract 0 (s.size - 1) = s1) (hpk : 0 < s1.size) (hik : (1 : Int) ≤ (s1.size : Int)) (hjk : (s1.size : Int) ≤ 40000) (hbk : ∀ h, (((((s1[s1.size - 1]'h).toNat) : Nat) : Int) == 39) = true) (hek : s1.extract 0 (s1.size - 1) = s2) (HM : Hid (MemIs s (-1))) (HC : Hid (RCutIs s ⟨#[46]⟩ x y false)) (HI : Hid (IdxIs As.ops 12 s2 c)) :
    Calls Tryz.prog 18 #[.string s] w fun e w' => e = .returned (.tuple #[.agg #[.int .i64 0, .bool true, .bool true, .int .i64 0, .int .i64 0, .int .i64 0, .int .i64 c, .int .i64 0], .bool true]) ∧ ∃ g, w' = more w g := by
  go_enter Tryz.func18, Tryz.ntmps18
  go_wp2_with (first | (go_at_call 38; first | ((with_reducible refine (HM.out _ _ ?_).mono ?_); (focus (refine As.at_new _ _ _ ?_; simp [As.sz3]; done)); rintro e w2 ⟨rfl, rfl⟩) | ((with_reducible refine (HI.out _ _ ?_).mono ?_); (focus (refine As.at_new _ _ _ ?_; simp [As.sz3, more_size]; done)); rintro e w2 ⟨rfl, rfl⟩)) | (go_at_call 17; (with_reducible refine (HC.out _).mono ?_); rintro e w2 ⟨rfl, g, rfl⟩) | (go_at_call 40; (with_reducible refine (rops_any _).mono ?_); rintro e w2 ⟨rfl, rfl⟩))
  go_region
  go_wp2_with (first | (go_at_call 38; first | ((with_reducible refine (HM.out _ _ ?_).mono ?_); (focus (refine As.at_new _ _ _ ?_; simp [As.sz3]; done)); rintro e w2 ⟨rfl, rfl⟩) | ((with_reducible refine (HI.out _ _ ?_).mono ?_); (focus (refine As.at_new _ _ _ ?_; simp [As.sz3, more_size]; done)); rintro e w2 ⟨rfl, rfl⟩)) | (go_at_call 17; (with_reducible refine (HC.out _).mono ?_); rintro e w2 ⟨rfl, g, rfl⟩) | (go_at_call 40; (with_reducible refine (rops_any _).mono ?_); rintro e w2 ⟨rfl, rfl⟩))
  go_region
  go_wp2_with (first | (go_at_call 38; first | ((with_reducible refine (HM.out _ _ ?_).mono ?_); (focus (refine As.at_new _ _ _ ?_; simp [As.sz3]; done)); rintro e w2 ⟨rfl, rfl⟩) | ((with_reducible refine (HI.out _ _ ?_).mono ?_); (focus (refine As.at_new _ _ _ ?_; simp [As.sz3, more_size]; done)); rintro e w2 ⟨rfl, rfl⟩)) | (go_at_call 17; (with_reducible refine (HC.out _).mono ?_); rintro e w2 ⟨rfl, g, rfl⟩) | (go_at_call 40; (with_reducible refine (rops_any _).mono ?_); rintro e w2 ⟨rfl, rfl⟩))
  go_region
  go_wp2
  all_goals go_returns
  all_goals exact ⟨rfl, more_of_below (by repeat' (first | (with_reducible exact Below.refl _ _) | (with_reducible assumption) | (with_reducible refine below_more ?_ ?_ _) | (with_reducible refine below_drewN ?_ _) | (with_reducible refine Below.drew ?_) | (with_reducible refine Below.alloc ?_ ?_ _) | (with_reducible refine Below.setCell ?_ ?_ _) | go_size | (simp [more_size]; done) | (simp [more_size]; omega)))⟩
set_option maxRecDepth 100000 in
set_option maxHeartbeats 3200000 in
theorem rparts_opTTn (s : ByteArray) (w : World) (hs : s.size ≤ 40000) (s1 s2 : ByteArray) (x y : ByteArray) (hpm : 0 < s.size) (him : (1 : Int) ≤ (s.size : Int)) (hjm : (s.size : Int) ≤ 40000) (hbm : ∀ h, (((((s[s.size - 1]'h).toNat) : Nat) : Int) == 34) = true) (hem : s.extract 0 (s.size - 1) = s1) (hpk : 0 < s1.size) (hik : (1 : Int) ≤ (s1.size : Int)) (hjk : (s1.size : Int) ≤ 40000) (hbk : ∀ h, (((((s1[s1.size - 1]'h).toNat) : Nat) : Int) == 39) = true) (hek : s1.extract 0 (s1.size - 1) = s2) (HM : Hid (MemIs s (-1))) (HC : Hid (RCutIs s ⟨#[46]⟩ x y false)) (HI : Hid (IdxIs As.ops 12 s2 (-1))) :
    Calls Tryz.prog 18 #[.string s] w fun e w' => e = .returned (.tuple #[.agg #[.int .i64 0, .bool true, .bool true, .int .i64 0, .int .i64 0, .int .i64 0, .int .i64 (-1), .int .i64 0], .bool false]) ∧ ∃ g, w' = more w g := by
  go_enter Tryz.func18, Tryz.ntmps18
  go_wp2_with (first | (go_at_call 38; first | ((with_reducible refine (HM.out _ _ ?_).mono ?_); (focus (refine As.at_new _ _ _ ?_; simp [As.sz3]; done)); rintro e w2 ⟨rfl, rfl⟩) | ((with_reducible refine (HI.out _ _ ?_).mono ?_); (focus (refine As.at_new _ _ _ ?_; simp [As.sz3, more_size]; done)); rintro e w2 ⟨rfl, rfl⟩)) | (go_at_call 17; (with_reducible refine (HC.out _).mono ?_); rintro e w2 ⟨rfl, g, rfl⟩) | (go_at_call 40; (with_reducible refine (rops_any _).mono ?_); rintro e w2 ⟨rfl, rfl⟩))
  go_region
  go_wp2_with (first | (go_at_call 38; first | ((with_reducible refine (HM.out _ _ ?_).mono ?_); (focus (refine As.at_new _ _ _ ?_; simp [As.sz3]; done)); rintro e w2 ⟨rfl, rfl⟩) | ((with_reducible refine (HI.out _ _ ?_).mono ?_); (focus (refine As.at_new _ _ _ ?_; simp [As.sz3, more_size]; done)); rintro e w2 ⟨rfl, rfl⟩)) | (go_at_call 17; (with_reducible refine (HC.out _).mono ?_); rintro e w2 ⟨rfl, g, rfl⟩) | (go_at_call 40; (with_reducible refine (rops_any _).mono ?_); rintro e w2 ⟨rfl, rfl⟩))
  go_region
  go_wp2_with (first | (go_at_call 38; first | ((with_reducible refine (HM.out _ _ ?_).mono ?_); (focus (refine As.at_new _ _ _ ?_; simp [As.sz3]; done)); rintro e w2 ⟨rfl, rfl⟩) | ((with_reducible refine (HI.out _ _ ?_).mono ?_); (focus (refine As.at_new _ _ _ ?_; simp [As.sz3, more_size]; done)); rintro e w2 ⟨rfl, rfl⟩)) | (go_at_call 17; (with_reducible refine (HC.out _).mono ?_); rintro e w2 ⟨rfl, g, rfl⟩) | (go_at_call 40; (with_reducible refine (rops_any _).mono ?_); rintro e w2 ⟨rfl, rfl⟩))
  go_region
  go_wp2
  all_goals go_returns
  all_goals exact ⟨rfl, more_of_below (by repeat' (first | (with_reducible exact Below.refl _ _) | (with_reducible assumption) | (with_reducible refine below_more ?_ ?_ _) | (with_reducible refine below_drewN ?_ _) | (with_reducible refine Below.drew ?_) | (with_reducible refine Below.alloc ?_ ?_ _) | (with_reducible refine Below.setCell ?_ ?_ _) | go_size | (simp [more_size]; done) | (simp [more_size]; omega)))⟩
set_option maxRecDepth 100000 in
set_option maxHeartbeats 3200000 in
theorem rparts_opTEy (s : ByteArray) (w : World) (hs : s.size ≤ 40000) (s1 : ByteArray) (x y : ByteArray) (c : Int) (hc : 0 ≤ c) (hpm : 0 < s.size) (him : (1 : Int) ≤ (s.size : Int)) (hjm : (s.size : Int) ≤ 40000) (hbm : ∀ h, (((((s[s.size - 1]'h).toNat) : Nat) : Int) == 34) = true) (hem : s.extract 0 (s.size - 1) = s1) (hzk : s1.size = 0) (HM : Hid (MemIs s (-1))) (HC : Hid (RCutIs s ⟨#[46]⟩ x y false)) (HI : Hid (IdxIs As.ops 12 s1 c)) :
    Calls Tryz.prog 18 #[.string s] w fun e w' => e = .returned (.tuple #[.agg #[.int .i64 0, .bool false, .bool true, .int .i64 0, .int .i64 0, .int .i64 0, .int .i64 c, .int .i64 0], .bool true]) ∧ ∃ g, w' = more w g := by
  go_enter Tryz.func18, Tryz.ntmps18
  go_wp2_with (first | (go_at_call 38; first | ((with_reducible refine (HM.out _ _ ?_).mono ?_); (focus (refine As.at_new _ _ _ ?_; simp [As.sz3]; done)); rintro e w2 ⟨rfl, rfl⟩) | ((with_reducible refine (HI.out _ _ ?_).mono ?_); (focus (refine As.at_new _ _ _ ?_; simp [As.sz3, more_size]; done)); rintro e w2 ⟨rfl, rfl⟩)) | (go_at_call 17; (with_reducible refine (HC.out _).mono ?_); rintro e w2 ⟨rfl, g, rfl⟩) | (go_at_call 40; (with_reducible refine (rops_any _).mono ?_); rintro e w2 ⟨rfl, rfl⟩))
  go_region
  go_wp2_with (first | (go_at_call 38; first | ((with_reducible refine (HM.out _ _ ?_).mono ?_); (focus (refine As.at_new _ _ _ ?_; simp [As.sz3]; done)); rintro e w2 ⟨rfl, rfl⟩) | ((with_reducible refine (HI.out _ _ ?_).mono ?_); (focus (refine As.at_new _ _ _ ?_; simp [As.sz3, more_size]; done)); rintro e w2 ⟨rfl, rfl⟩)) | (go_at_call 17; (with_reducible refine (HC.out _).mono ?_); rintro e w2 ⟨rfl, g, rfl⟩) | (go_at_call 40; (with_reducible refine (rops_any _).mono ?_); rintro e w2 ⟨rfl, rfl⟩))
  go_region
  go_wp2
  all_goals go_returns
  all_goals exact ⟨rfl, more_of_below (by repeat' (first | (with_reducible exact Below.refl _ _) | (with_reducible assumption) | (with_reducible refine below_more ?_ ?_ _) | (with_reducible refine below_drewN ?_ _) | (with_reducible refine Below.drew ?_) | (with_reducible refine Below.alloc ?_ ?_ _) | (with_reducible refine Below.setCell ?_ ?_ _) | go_size | (simp [more_size]; done) | (simp [more_size]; omega)))⟩
set_option maxRecDepth 100000 in
set_option maxHeartbeats 3200000 in
theorem rparts_opTEn (s : ByteArray) (w : World) (hs : s.size ≤ 40000) (s1 : ByteArray) (x y : ByteArray) (hpm : 0 < s.size) (him : (1 : Int) ≤ (s.size : Int)) (hjm : (s.size : Int) ≤ 40000) (hbm : ∀ h, (((((s[s.size - 1]'h).toNat) : Nat) : Int) == 34) = true) (hem : s.extract 0 (s.size - 1) = s1) (hzk : s1.size = 0) (HM : Hid (MemIs s (-1))) (HC : Hid (RCutIs s ⟨#[46]⟩ x y false)) (HI : Hid (IdxIs As.ops 12 s1 (-1))) :
    Calls Tryz.prog 18 #[.string s] w fun e w' => e = .returned (.tuple #[.agg #[.int .i64 0, .bool false, .bool true, .int .i64 0, .int .i64 0, .int .i64 0, .int .i64 (-1), .int .i64 0], .bool false]) ∧ ∃ g, w' = more w g := by
  go_enter Tryz.func18, Tryz.ntmps18
  go_wp2_with (first | (go_at_call 38; first | ((with_reducible refine (HM.out _ _ ?_).mono ?_); (focus (refine As.at_new _ _ _ ?_; simp [As.sz3]; done)); rintro e w2 ⟨rfl, rfl⟩) | ((with_reducible refine (HI.out _ _ ?_).mono ?_); (focus (refine As.at_new _ _ _ ?_; simp [As.sz3, more_size]; done)); rintro e w2 ⟨rfl, rfl⟩)) | (go_at_call 17; (with_reducible refine (HC.out _).mono ?_); rintro e w2 ⟨rfl, g, rfl⟩) | (go_at_call 40; (with_reducible refine (rops_any _).mono ?_); rintro e w2 ⟨rfl, rfl⟩))
  go_region
  go_wp2_with (first | (go_at_call 38; first | ((with_reducible refine (HM.out _ _ ?_).mono ?_); (focus (refine As.at_new _ _ _ ?_; simp [As.sz3]; done)); rintro e w2 ⟨rfl, rfl⟩) | ((with_reducible refine (HI.out _ _ ?_).mono ?_); (focus (refine As.at_new _ _ _ ?_; simp [As.sz3, more_size]; done)); rintro e w2 ⟨rfl, rfl⟩)) | (go_at_call 17; (with_reducible refine (HC.out _).mono ?_); rintro e w2 ⟨rfl, g, rfl⟩) | (go_at_call 40; (with_reducible refine (rops_any _).mono ?_); rintro e w2 ⟨rfl, rfl⟩))
  go_region
  go_wp2
  all_goals go_returns
  all_goals exact ⟨rfl, more_of_below (by repeat' (first | (with_reducible exact Below.refl _ _) | (with_reducible assumption) | (with_reducible refine below_more ?_ ?_ _) | (with_reducible refine below_drewN ?_ _) | (with_reducible refine Below.drew ?_) | (with_reducible refine Below.alloc ?_ ?_ _) | (with_reducible refine Below.setCell ?_ ?_ _) | go_size | (simp [more_size]; done) | (simp [more_size]; omega)))⟩
set_option maxRecDepth 100000 in
set_option maxHeartbeats 3200000 in
theorem rparts_opTNy (s : ByteArray) (w : World) (hs : s.size ≤ 40000) (s1 : ByteArray) (x y : ByteArray) (c : Int) (hc : 0 ≤ c) (hpm : 0 < s.size) (him : (1 : Int) ≤ (s.size : Int)) (hjm : (s.size : Int) ≤ 40000) (hbm : ∀ h, (((((s[s.size - 1]'h).toNat) : Nat) : Int) == 34) = true) (hem : s.extract 0 (s.size - 1) = s1) (hpk : 0 < s1.size) (hik : (1 : Int) ≤ (s1.size : Int)) (hjk : (s1.size : Int) ≤ 40000) (hbk : ∀ h, (((((s1[s1.size - 1]'h).toNat) : Nat) : Int) == 39) = false) (HM : Hid (MemIs s (-1))) (HC : Hid (RCutIs s ⟨#[46]⟩ x y false)) (HI : Hid (IdxIs As.ops 12 s1 c)) :
    Calls Tryz.prog 18 #[.string s] w fun e w' => e = .returned (.tuple #[.agg #[.int .i64 0, .bool false, .bool true, .int .i64 0, .int .i64 0, .int .i64 0, .int .i64 c, .int .i64 0], .bool true]) ∧ ∃ g, w' = more w g := by
  go_enter Tryz.func18, Tryz.ntmps18
  go_wp2_with (first | (go_at_call 38; first | ((with_reducible refine (HM.out _ _ ?_).mono ?_); (focus (refine As.at_new _ _ _ ?_; simp [As.sz3]; done)); rintro e w2 ⟨rfl, rfl⟩) | ((with_reducible refine (HI.out _ _ ?_).mono ?_); (focus (refine As.at_new _ _ _ ?_; simp [As.sz3, more_size]; done)); rintro e w2 ⟨rfl, rfl⟩)) | (go_at_call 17; (with_reducible refine (HC.out _).mono ?_); rintro e w2 ⟨rfl, g, rfl⟩) | (go_at_call 40; (with_reducible refine (rops_any _).mono ?_); rintro e w2 ⟨rfl, rfl⟩))
  go_region
  go_wp2_with (first | (go_at_call 38; first | ((with_reducible refine (HM.out _ _ ?_).mono ?_); (focus (refine As.at_new _ _ _ ?_; simp [As.sz3]; done)); rintro e w2 ⟨rfl, rfl⟩) | ((with_reducible refine (HI.out _ _ ?_).mono ?_); (focus (refine As.at_new _ _ _ ?_; simp [As.sz3, more_size]; done)); rintro e w2 ⟨rfl, rfl⟩)) | (go_at_call 17; (with_reducible refine (HC.out _).mono ?_); rintro e w2 ⟨rfl, g, rfl⟩) | (go_at_call 40; (with_reducible refine (rops_any _).mono ?_); rintro e w2 ⟨rfl, rfl⟩))
  go_region
  go_wp2
  all_goals go_returns
  all_goals exact ⟨rfl, more_of_below (by repeat' (first | (with_reducible exact Below.refl _ _) | (with_reducible assumption) | (with_reducible refine below_more ?_ ?_ _) | (with_reducible refine below_drewN ?_ _) | (with_reducible refine Below.drew ?_) | (with_reducible refine Below.alloc ?_ ?_ _) | (with_reducible refine Below.setCell ?_ ?_ _) | go_size | (simp [more_size]; done) | (simp [more_size]; omega)))⟩
set_option maxRecDepth 100000 in
set_option maxHeartbeats 3200000 in
theorem rparts_opTNn (s : ByteArray) (w : World) (hs : s.size ≤ 40000) (s1 : ByteArray) (x y : ByteArray) (hpm : 0 < s.size) (him : (1 : Int) ≤ (s.size : Int)) (hjm : (s.size : Int) ≤ 40000) (hbm : ∀ h, (((((s[s.size - 1]'h).toNat) : Nat) : Int) == 34) = true) (hem : s.extract 0 (s.size - 1) = s1) (hpk : 0 < s1.size) (hik : (1 : Int) ≤ (s1.size : Int)) (hjk : (s1.size : Int) ≤ 40000) (hbk : ∀ h, (((((s1[s1.size - 1]'h).toNat) : Nat) : Int) == 39) = false) (HM : Hid (MemIs s (-1))) (HC : Hid (RCutIs s ⟨#[46]⟩ x y false)) (HI : Hid (IdxIs As.ops 12 s1 (-1))) :
    Calls Tryz.prog 18 #[.string s] w fun e w' => e = .returned (.tuple #[.agg #[.int .i64 0, .bool false, .bool true, .int .i64 0, .int .i64 0, .int .i64 0, .int .i64 (-1), .int .i64 0], .bool false]) ∧ ∃ g, w' = more w g := by
  go_enter Tryz.func18, Tryz.ntmps18
  go_wp2_with (first | (go_at_call 38; first | ((with_reducible refine (HM.out _ _ ?_).mono ?_); (focus (refine As.at_new _ _ _ ?_; simp [As.sz3]; done)); rintro e w2 ⟨rfl, rfl⟩) | ((with_reducible refine (HI.out _ _ ?_).mono ?_); (focus (refine As.at_new _ _ _ ?_; simp [As.sz3, more_size]; done)); rintro e w2 ⟨rfl, rfl⟩)) | (go_at_call 17; (with_reducible refine (HC.out _).mono ?_); rintro e w2 ⟨rfl, g, rfl⟩) | (go_at_call 40; (with_reducible refine (rops_any _).mono ?_); rintro e w2 ⟨rfl, rfl⟩))
  go_region
  go_wp2_with (first | (go_at_call 38; first | ((with_reducible refine (HM.out _ _ ?_).mono ?_); (focus (refine As.at_new _ _ _ ?_; simp [As.sz3]; done)); rintro e w2 ⟨rfl, rfl⟩) | ((with_reducible refine (HI.out _ _ ?_).mono ?_); (focus (refine As.at_new _ _ _ ?_; simp [As.sz3, more_size]; done)); rintro e w2 ⟨rfl, rfl⟩)) | (go_at_call 17; (with_reducible refine (HC.out _).mono ?_); rintro e w2 ⟨rfl, g, rfl⟩) | (go_at_call 40; (with_reducible refine (rops_any _).mono ?_); rintro e w2 ⟨rfl, rfl⟩))
  go_region
  go_wp2
  all_goals go_returns
  all_goals exact ⟨rfl, more_of_below (by repeat' (first | (with_reducible exact Below.refl _ _) | (with_reducible assumption) | (with_reducible refine below_more ?_ ?_ _) | (with_reducible refine below_drewN ?_ _) | (with_reducible refine Below.drew ?_) | (with_reducible refine Below.alloc ?_ ?_ _) | (with_reducible refine Below.setCell ?_ ?_ _) | go_size | (simp [more_size]; done) | (simp [more_size]; omega)))⟩
set_option maxRecDepth 100000 in
set_option maxHeartbeats 3200000 in
theorem rparts_opNTy (s : ByteArray) (w : World) (hs : s.size ≤ 40000) (s2 : ByteArray) (x y : ByteArray) (c : Int) (hc : 0 ≤ c) (hpm : 0 < s.size) (him : (1 : Int) ≤ (s.size : Int)) (hjm : (s.size : Int) ≤ 40000) (hbm : ∀ h, (((((s[s.size - 1]'h).toNat) : Nat) : Int) == 34) = false) (hbk : ∀ h, (((((s[s.size - 1]'h).toNat) : Nat) : Int) == 39) = true) (hek : s.extract 0 (s.size - 1) = s2) (HM : Hid (MemIs s (-1))) (HC : Hid (RCutIs s ⟨#[46]⟩ x y false)) (HI : Hid (IdxIs As.ops 12 s2 c)) :
    Calls Tryz.prog 18 #[.string s] w fun e w' => e = .returned (.tuple #[.agg #[.int .i64 0, .bool true, .bool false, .int .i64 0, .int .i64 0, .int .i64 0, .int .i64 c, .int .i64 0], .bool true]) ∧ ∃ g, w' = more w g := by
  go_enter Tryz.func18, Tryz.ntmps18
  go_wp2_with (first | (go_at_call 38; first | ((with_reducible refine (HM.out _ _ ?_).mono ?_); (focus (refine As.at_new _ _ _ ?_; simp [As.sz3]; done)); rintro e w2 ⟨rfl, rfl⟩) | ((with_reducible refine (HI.out _ _ ?_).mono ?_); (focus (refine As.at_new _ _ _ ?_; simp [As.sz3, more_size]; done)); rintro e w2 ⟨rfl, rfl⟩)) | (go_at_call 17; (with_reducible refine (HC.out _).mono ?_); rintro e w2 ⟨rfl, g, rfl⟩) | (go_at_call 40; (with_reducible refine (rops_any _).mono ?_); rintro e w2 ⟨rfl, rfl⟩))
  go_region
  go_wp2_with (first | (go_at_call 38; first | ((with_reducible refine (HM.out _ _ ?_).mono ?_); (focus (refine As.at_new _ _ _ ?_; simp [As.sz3]; done)); rintro e w2 ⟨rfl, rfl⟩) | ((with_reducible refine (HI.out _ _ ?_).mono ?_); (focus (refine As.at_new _ _ _ ?_; simp [As.sz3, more_size]; done)); rintro e w2 ⟨rfl, rfl⟩)) | (go_at_call 17; (with_reducible refine (HC.out _).mono ?_); rintro e w2 ⟨rfl, g, rfl⟩) | (go_at_call 40; (with_reducible refine (rops_any _).mono ?_); rintro e w2 ⟨rfl, rfl⟩))
  go_region
  go_wp2
  all_goals go_returns
  all_goals exact ⟨rfl, more_of_below (by repeat' (first | (with_reducible exact Below.refl _ _) | (with_reducible assumption) | (with_reducible refine below_more ?_ ?_ _) | (with_reducible refine below_drewN ?_ _) | (with_reducible refine Below.drew ?_) | (with_reducible refine Below.alloc ?_ ?_ _) | (with_reducible refine Below.setCell ?_ ?_ _) | go_size | (simp [more_size]; done) | (simp [more_size]; omega)))⟩
set_option maxRecDepth 100000 in
set_option maxHeartbeats 3200000 in
theorem rparts_opNTn (s : ByteArray) (w : World) (hs : s.size ≤ 40000) (s2 : ByteArray) (x y : ByteArray) (hpm : 0 < s.size) (him : (1 : Int) ≤ (s.size : Int)) (hjm : (s.size : Int) ≤ 40000) (hbm : ∀ h, (((((s[s.size - 1]'h).toNat) : Nat) : Int) == 34) = false) (hbk : ∀ h, (((((s[s.size - 1]'h).toNat) : Nat) : Int) == 39) = true) (hek : s.extract 0 (s.size - 1) = s2) (HM : Hid (MemIs s (-1))) (HC : Hid (RCutIs s ⟨#[46]⟩ x y false)) (HI : Hid (IdxIs As.ops 12 s2 (-1))) :
    Calls Tryz.prog 18 #[.string s] w fun e w' => e = .returned (.tuple #[.agg #[.int .i64 0, .bool true, .bool false, .int .i64 0, .int .i64 0, .int .i64 0, .int .i64 (-1), .int .i64 0], .bool false]) ∧ ∃ g, w' = more w g := by
  go_enter Tryz.func18, Tryz.ntmps18
  go_wp2_with (first | (go_at_call 38; first | ((with_reducible refine (HM.out _ _ ?_).mono ?_); (focus (refine As.at_new _ _ _ ?_; simp [As.sz3]; done)); rintro e w2 ⟨rfl, rfl⟩) | ((with_reducible refine (HI.out _ _ ?_).mono ?_); (focus (refine As.at_new _ _ _ ?_; simp [As.sz3, more_size]; done)); rintro e w2 ⟨rfl, rfl⟩)) | (go_at_call 17; (with_reducible refine (HC.out _).mono ?_); rintro e w2 ⟨rfl, g, rfl⟩) | (go_at_call 40; (with_reducible refine (rops_any _).mono ?_); rintro e w2 ⟨rfl, rfl⟩))
  go_region
  go_wp2_with (first | (go_at_call 38; first | ((with_reducible refine (HM.out _ _ ?_).mono ?_); (focus (refine As.at_new _ _ _ ?_; simp [As.sz3]; done)); rintro e w2 ⟨rfl, rfl⟩) | ((with_reducible refine (HI.out _ _ ?_).mono ?_); (focus (refine As.at_new _ _ _ ?_; simp [As.sz3, more_size]; done)); rintro e w2 ⟨rfl, rfl⟩)) | (go_at_call 17; (with_reducible refine (HC.out _).mono ?_); rintro e w2 ⟨rfl, g, rfl⟩) | (go_at_call 40; (with_reducible refine (rops_any _).mono ?_); rintro e w2 ⟨rfl, rfl⟩))
  go_region
  go_wp2
  all_goals go_returns
  all_goals exact ⟨rfl, more_of_below (by repeat' (first | (with_reducible exact Below.refl _ _) | (with_reducible assumption) | (with_reducible refine below_more ?_ ?_ _) | (with_reducible refine below_drewN ?_ _) | (with_reducible refine Below.drew ?_) | (with_reducible refine Below.alloc ?_ ?_ _) | (with_reducible refine Below.setCell ?_ ?_ _) | go_size | (simp [more_size]; done) | (simp [more_size]; omega)))⟩
set_option maxRecDepth 100000 in
set_option maxHeartbeats 3200000 in
theorem rparts_opNNy (s : ByteArray) (w : World) (hs : s.size ≤ 40000) (x y : ByteArray) (c : Int) (hc : 0 ≤ c) (hpm : 0 < s.size) (him : (1 : Int) ≤ (s.size : Int)) (hjm : (s.size : Int) ≤ 40000) (hbm : ∀ h, (((((s[s.size - 1]'h).toNat) : Nat) : Int) == 34) = false) (hbk : ∀ h, (((((s[s.size - 1]'h).toNat) : Nat) : Int) == 39) = false) (HM : Hid (MemIs s (-1))) (HC : Hid (RCutIs s ⟨#[46]⟩ x y false)) (HI : Hid (IdxIs As.ops 12 s c)) :
    Calls Tryz.prog 18 #[.string s] w fun e w' => e = .returned (.tuple #[.agg #[.int .i64 0, .bool false, .bool false, .int .i64 0, .int .i64 0, .int .i64 0, .int .i64 c, .int .i64 0], .bool true]) ∧ ∃ g, w' = more w g := by
  go_enter Tryz.func18, Tryz.ntmps18
  go_wp2_with (first | (go_at_call 38; first | ((with_reducible refine (HM.out _ _ ?_).mono ?_); (focus (refine As.at_new _ _ _ ?_; simp [As.sz3]; done)); rintro e w2 ⟨rfl, rfl⟩) | ((with_reducible refine (HI.out _ _ ?_).mono ?_); (focus (refine As.at_new _ _ _ ?_; simp [As.sz3, more_size]; done)); rintro e w2 ⟨rfl, rfl⟩)) | (go_at_call 17; (with_reducible refine (HC.out _).mono ?_); rintro e w2 ⟨rfl, g, rfl⟩) | (go_at_call 40; (with_reducible refine (rops_any _).mono ?_); rintro e w2 ⟨rfl, rfl⟩))
  go_region
  go_wp2
  all_goals go_returns
  all_goals exact ⟨rfl, more_of_below (by repeat' (first | (with_reducible exact Below.refl _ _) | (with_reducible assumption) | (with_reducible refine below_more ?_ ?_ _) | (with_reducible refine below_drewN ?_ _) | (with_reducible refine Below.drew ?_) | (with_reducible refine Below.alloc ?_ ?_ _) | (with_reducible refine Below.setCell ?_ ?_ _) | go_size | (simp [more_size]; done) | (simp [more_size]; omega)))⟩
set_option maxRecDepth 100000 in
set_option maxHeartbeats 3200000 in
theorem rparts_opNNn (s : ByteArray) (w : World) (hs : s.size ≤ 40000) (x y : ByteArray) (hpm : 0 < s.size) (him : (1 : Int) ≤ (s.size : Int)) (hjm : (s.size : Int) ≤ 40000) (hbm : ∀ h, (((((s[s.size - 1]'h).toNat) : Nat) : Int) == 34) = false) (hbk : ∀ h, (((((s[s.size - 1]'h).toNat) : Nat) : Int) == 39) = false) (HM : Hid (MemIs s (-1))) (HC : Hid (RCutIs s ⟨#[46]⟩ x y false)) (HI : Hid (IdxIs As.ops 12 s (-1))) :
    Calls Tryz.prog 18 #[.string s] w fun e w' => e = .returned (.tuple #[.agg #[.int .i64 0, .bool false, .bool false, .int .i64 0, .int .i64 0, .int .i64 0, .int .i64 (-1), .int .i64 0], .bool false]) ∧ ∃ g, w' = more w g := by
  go_enter Tryz.func18, Tryz.ntmps18
  go_wp2_with (first | (go_at_call 38; first | ((with_reducible refine (HM.out _ _ ?_).mono ?_); (focus (refine As.at_new _ _ _ ?_; simp [As.sz3]; done)); rintro e w2 ⟨rfl, rfl⟩) | ((with_reducible refine (HI.out _ _ ?_).mono ?_); (focus (refine As.at_new _ _ _ ?_; simp [As.sz3, more_size]; done)); rintro e w2 ⟨rfl, rfl⟩)) | (go_at_call 17; (with_reducible refine (HC.out _).mono ?_); rintro e w2 ⟨rfl, g, rfl⟩) | (go_at_call 40; (with_reducible refine (rops_any _).mono ?_); rintro e w2 ⟨rfl, rfl⟩))
  go_region
  go_wp2
  all_goals go_returns
  all_goals exact ⟨rfl, more_of_below (by repeat' (first | (with_reducible exact Below.refl _ _) | (with_reducible assumption) | (with_reducible refine below_more ?_ ?_ _) | (with_reducible refine below_drewN ?_ _) | (with_reducible refine Below.drew ?_) | (with_reducible refine Below.alloc ?_ ?_ _) | (with_reducible refine Below.setCell ?_ ?_ _) | go_size | (simp [more_size]; done) | (simp [more_size]; omega)))⟩
set_option maxRecDepth 100000 in
set_option maxHeartbeats 3200000 in
theorem rparts_opEEy (s : ByteArray) (w : World) (hs : s.size ≤ 40000) (x y : ByteArray) (c : Int) (hc : 0 ≤ c) (hzm : s.size = 0)  (HM : Hid (MemIs s (-1))) (HC : Hid (RCutIs s ⟨#[46]⟩ x y false)) (HI : Hid (IdxIs As.ops 12 s c)) :
    Calls Tryz.prog 18 #[.string s] w fun e w' => e = .returned (.tuple #[.agg #[.int .i64 0, .bool false, .bool false, .int .i64 0, .int .i64 0, .int .i64 0, .int .i64 c, .int .i64 0], .bool true]) ∧ ∃ g, w' = more w g := by
  go_enter Tryz.func18, Tryz.ntmps18
  go_wp2_with (first | (go_at_call 38; first | ((with_reducible refine (HM.out _ _ ?_).mono ?_); (focus (refine As.at_new _ _ _ ?_; simp [As.sz3]; done)); rintro e w2 ⟨rfl, rfl⟩) | ((with_reducible refine (HI.out _ _ ?_).mono ?_); (focus (refine As.at_new _ _ _ ?_; simp [As.sz3, more_size]; done)); rintro e w2 ⟨rfl, rfl⟩)) | (go_at_call 17; (with_reducible refine (HC.out _).mono ?_); rintro e w2 ⟨rfl, g, rfl⟩) | (go_at_call 40; (with_reducible refine (rops_any _).mono ?_); rintro e w2 ⟨rfl, rfl⟩))
  go_region
  go_wp2
  all_goals go_returns
  all_goals exact ⟨rfl, more_of_below (by repeat' (first | (with_reducible exact Below.refl _ _) | (with_reducible assumption) | (with_reducible refine below_more ?_ ?_ _) | (with_reducible refine below_drewN ?_ _) | (with_reducible refine Below.drew ?_) | (with_reducible refine Below.alloc ?_ ?_ _) | (with_reducible refine Below.setCell ?_ ?_ _) | go_size | (simp [more_size]; done) | (simp [more_size]; omega)))⟩
set_option maxRecDepth 100000 in
set_option maxHeartbeats 3200000 in
theorem rparts_opEEn (s : ByteArray) (w : World) (hs : s.size ≤ 40000) (x y : ByteArray) (hzm : s.size = 0)  (HM : Hid (MemIs s (-1))) (HC : Hid (RCutIs s ⟨#[46]⟩ x y false)) (HI : Hid (IdxIs As.ops 12 s (-1))) :
    Calls Tryz.prog 18 #[.string s] w fun e w' => e = .returned (.tuple #[.agg #[.int .i64 0, .bool false, .bool false, .int .i64 0, .int .i64 0, .int .i64 0, .int .i64 (-1), .int .i64 0], .bool false]) ∧ ∃ g, w' = more w g := by
  go_enter Tryz.func18, Tryz.ntmps18
  go_wp2_with (first | (go_at_call 38; first | ((with_reducible refine (HM.out _ _ ?_).mono ?_); (focus (refine As.at_new _ _ _ ?_; simp [As.sz3]; done)); rintro e w2 ⟨rfl, rfl⟩) | ((with_reducible refine (HI.out _ _ ?_).mono ?_); (focus (refine As.at_new _ _ _ ?_; simp [As.sz3, more_size]; done)); rintro e w2 ⟨rfl, rfl⟩)) | (go_at_call 17; (with_reducible refine (HC.out _).mono ?_); rintro e w2 ⟨rfl, g, rfl⟩) | (go_at_call 40; (with_reducible refine (rops_any _).mono ?_); rintro e w2 ⟨rfl, rfl⟩))
  go_region
  go_wp2
  all_goals go_returns
  all_goals exact ⟨rfl, more_of_below (by repeat' (first | (with_reducible exact Below.refl _ _) | (with_reducible assumption) | (with_reducible refine below_more ?_ ?_ _) | (with_reducible refine below_drewN ?_ _) | (with_reducible refine Below.drew ?_) | (with_reducible refine Below.alloc ?_ ?_ _) | (with_reducible refine Below.setCell ?_ ?_ _) | go_size | (simp [more_size]; done) | (simp [more_size]; omega)))⟩
end Go.Proofs.YtcckbmmjklahfaaGreatDoor
