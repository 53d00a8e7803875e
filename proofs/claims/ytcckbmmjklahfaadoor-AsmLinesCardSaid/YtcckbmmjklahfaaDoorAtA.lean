/- The walk of the document's Line: form 0, by its flags. Conditions: the word is one. -/
import Derived.Test.YtcckbmmjklahfaaDoorAsL
import Derived.Test.YtcckbmmjklahfaaDoorAsX
import Derived.Test.YtcckbmmjklahfaaDoorRegG
import Derived.BigQuiet
namespace Go.Proofs.YtcckbmmjklahfaaDoor
set_option linter.all false
open Go.RowKit
set_option maxRecDepth 100000 in
set_option maxHeartbeats 3200000 in
theorem rline0ff_any (z : Int)  (a b c : Int) (i : Nat) (w : World) (NM : ByteArray) (hNM : NM.size ≤ 10) (hi : i < 12) (hT : (As.scs As.ops)[i]? = some (.string NM)) (Ra : ByteArray) (ha : Ra.size ≤ 12) (Ha : Hid (∀ w, Calls Tryd.prog 11 #[.int .i64 a] w fun e w2 => e = .returned (.string Ra) ∧ ∃ g, w2 = more w g)) (Rb : ByteArray) (hb : Rb.size ≤ 12) (Hb : Hid (∀ w, Calls Tryd.prog 11 #[.int .i64 b] w fun e w2 => e = .returned (.string Rb) ∧ ∃ g, w2 = more w g)) (Rc : ByteArray) (hc : Rc.size ≤ 12) (Hc : Hid (∀ w, Calls Tryd.prog 11 #[.int .i64 c] w fun e w2 => e = .returned (.string Rc) ∧ ∃ g, w2 = more w g)) 
    (HD : Hid (∀ w, Calls Tryd.prog 9 #[.int .u32 z] w fun e w' => e = .returned (.tuple #[.agg #[.int .i64 0, .bool false, .bool false, .int .i64 a, .int .i64 b, .int .i64 c, .int .i64 (i : Int), .int .i64 0], .int .i64 0]) ∧ ∃ g, w' = more w g)) :
    Calls Tryd.prog 5 #[.int .u32 z] w fun e w' => e = .returned (.tuple #[.string (NM ++ ⟨#[]⟩ ++ ⟨#[32]⟩ ++ Ra ++ ⟨#[44, 32]⟩ ++ Rb ++ ⟨#[44, 32]⟩ ++ Rc), .int .i64 0]) ∧ ∃ g, w' = more w g := by
  go_enter Tryd.func5, Tryd.ntmps5
  go_wp2_with (go_at_call 9; (with_reducible refine (HD.out _).mono ?_); rintro e w2 ⟨rfl, g, rfl⟩)
  obtain ⟨bx, hbx⟩ : ∃ bx, bx = w.heap.size + g.o.size := ⟨_, rfl⟩
  have hc : ∀ (j : Nat) (xv : Value), (#[Value.int .i64 0, .bool false, .bool false, .int .i64 a, .int .i64 b, .int .i64 c, .int .i64 (i : Int), .int .i64 0] : Array Value)[j]? = some xv → ((more w g).alloc (.cells #[.int .i64 0, .bool false, .bool false, .int .i64 a, .int .i64 b, .int .i64 c, .int .i64 (i : Int), .int .i64 0] 33)).cell? ⟨bx, j, none⟩ = some xv := fun j xv h => by
    rw [hbx]
    have := (MapKept.heap_alloc (more w g) (.cells #[.int .i64 0, .bool false, .bool false, .int .i64 a, .int .i64 b, .int .i64 c, .int .i64 (i : Int), .int .i64 0] 33 (0, 0))).1
    rw [more_size] at this
    rw [cell_of_row _ _ _ _ _ _ this]; exact h
  have y0 := hc 0 _ rfl
  have y1 := hc 1 _ rfl
  have y2 := hc 2 _ rfl
  have y3 := hc 3 _ rfl
  have y4 := hc 4 _ rfl
  have y5 := hc 5 _ rfl
  have y6 := hc 6 _ rfl
  have y7 := hc 7 _ rfl
  rw [← hbx]
  have ybx : bx < ((more w g).alloc (.cells #[.int .i64 0, .bool false, .bool false, .int .i64 a, .int .i64 b, .int .i64 c, .int .i64 (i : Int), .int .i64 0] 33)).heap.size := by rw [As.sz3, more_size]; omega
  clear hc hbx
  have HBW : Below w.heap.size w ((more w g).alloc (.cells #[.int .i64 0, .bool false, .bool false, .int .i64 a, .int .i64 b, .int .i64 c, .int .i64 (i : Int), .int .i64 0] 33)) := (by repeat' (first | (with_reducible exact Below.refl _ _) | (with_reducible assumption) | (with_reducible refine below_more ?_ ?_ _) | (with_reducible refine below_drewN ?_ _) | (with_reducible refine Below.drew ?_) | (with_reducible refine Below.alloc ?_ ?_ _) | (with_reducible refine Below.setCell ?_ ?_ _) | go_size | (simp [more_size]; done) | (simp [more_size]; omega)))
  generalize ((more w g).alloc (.cells #[.int .i64 0, .bool false, .bool false, .int .i64 a, .int .i64 b, .int .i64 c, .int .i64 (i : Int), .int .i64 0] 33)) = W at *
  replace HBW := Lib.hid HBW
  have hi0 : (0 : Int) ≤ (i : Int) := by omega
  have hi1 : (i : Int) < 12 := by omega
  go_wp2_with fail
  have HW0 := Lib.hid (show (fun X => X.cell? ⟨bx, 3, none⟩ = some (.int .i64 a) ∧ X.cell? ⟨bx, 4, none⟩ = some (.int .i64 b) ∧ X.cell? ⟨bx, 5, none⟩ = some (.int .i64 c) ∧ X.cell? ⟨bx, 6, none⟩ = some (.int .i64 (i : Int))) W.drew ∧ True from ⟨by simp [go_sem, *], trivial⟩)
  refine wp_region_G (SD 0 (fun X => X.cell? ⟨bx, 3, none⟩ = some (.int .i64 a) ∧ X.cell? ⟨bx, 4, none⟩ = some (.int .i64 b) ∧ X.cell? ⟨bx, 5, none⟩ = some (.int .i64 c) ∧ X.cell? ⟨bx, 6, none⟩ = some (.int .i64 (i : Int))) (fun X => X.cell? ⟨W.heap.size, i, none⟩ = some (.string NM))) 24 (by kernel_rfl) (by kernel_rfl) ⟨HW0.out.1, fun h => absurd h (by decide)⟩ (fun hC hS => ?_)
  clear HW0
  refine wpAnyD_take (n := 24) (i := 1) (v := ?v1) rfl (by kernel_rfl) (by kernel_rfl) (by kernel_rfl) (by kernel_rfl) (SD_put (by decide)) (fun _ _ _ h => h) (closed_all (by kernel_rfl)) (Or.inl ⟨by rfl, ?y1⟩) hS ?r1
  case y1 =>
    intro X hX
    clear hX
    go_simp
    try with_reducible rfl
    try (rw [if_neg (by first | omega | (simp [ByteArray.size_append, ByteArray.size]; omega) | (simp only [ByteArray.size_append]; omega))])
  replace hS := (SD_put (n := 24) (i := 1) (by decide) _ _ (by first | kernel_rfl | simp)).2 hS
  try simp only [Act.put, List.setIfInBounds_toArray, List.set_cons_zero, List.set_cons_succ]
  try simp only [List.setIfInBounds_toArray, List.set_cons_zero, List.set_cons_succ] at hS
  refine wpAnyD_take (n := 24) (i := 2) (v := ?v2) rfl (by kernel_rfl) (by kernel_rfl) (by kernel_rfl) (by kernel_rfl) (SD_put (by decide)) (fun _ _ _ h => h) (closed_all (by kernel_rfl)) (Or.inl ⟨by rfl, ?y2⟩) hS ?r2
  case y2 =>
    intro X hX
    have xb := starD_base hX
    clear hX
    go_simp
    try with_reducible rfl
    try (rw [if_neg (by first | omega | (simp [ByteArray.size_append, ByteArray.size]; omega) | (simp only [ByteArray.size_append]; omega))])
  replace hS := (SD_put (n := 24) (i := 2) (by decide) _ _ (by first | kernel_rfl | simp)).2 hS
  try simp only [Act.put, List.setIfInBounds_toArray, List.set_cons_zero, List.set_cons_succ]
  try simp only [List.setIfInBounds_toArray, List.set_cons_zero, List.set_cons_succ] at hS
  refine wpAnyD_take (n := 24) (i := 5) (v := ?v5) rfl (by kernel_rfl) (by kernel_rfl) (by kernel_rfl) (by kernel_rfl) (SD_put (by decide)) (fun _ _ _ h => h) (closed_all (by kernel_rfl)) (Or.inl ⟨by rfl, ?y5⟩) hS ?r5
  case y5 =>
    intro X hX
    clear hX
    go_simp
    try with_reducible rfl
    try (rw [if_neg (by first | omega | (simp [ByteArray.size_append, ByteArray.size]; omega) | (simp only [ByteArray.size_append]; omega))])
  replace hS := (SD_put (n := 24) (i := 5) (by decide) _ _ (by first | kernel_rfl | simp)).2 hS
  try simp only [Act.put, List.setIfInBounds_toArray, List.set_cons_zero, List.set_cons_succ]
  try simp only [List.setIfInBounds_toArray, List.set_cons_zero, List.set_cons_succ] at hS
  refine wpAnyD_take (n := 24) (i := 8) (v := ?v8) rfl (by kernel_rfl) (by kernel_rfl) (by kernel_rfl) (by kernel_rfl) (SD_put (by decide)) (fun _ _ _ h => h) (closed_all (by kernel_rfl)) (Or.inl ⟨by rfl, ?y8⟩) hS ?r8
  case y8 =>
    intro X hX
    clear hX
    go_simp
    try with_reducible rfl
    try (rw [if_neg (by first | omega | (simp [ByteArray.size_append, ByteArray.size]; omega) | (simp only [ByteArray.size_append]; omega))])
  replace hS := (SD_put (n := 24) (i := 8) (by decide) _ _ (by first | kernel_rfl | simp)).2 hS
  try simp only [Act.put, List.setIfInBounds_toArray, List.set_cons_zero, List.set_cons_succ]
  try simp only [List.setIfInBounds_toArray, List.set_cons_zero, List.set_cons_succ] at hS
  refine wpAnyD_take (n := 24) (i := 9) (v := ?v9) rfl (by kernel_rfl) (by kernel_rfl) (by kernel_rfl) (by kernel_rfl) (SD_put (by decide)) (fun _ _ _ h => h) (closed_all (by kernel_rfl)) (Or.inl ⟨by rfl, ?y9⟩) hS ?r9
  case y9 =>
    intro X hX
    have xb := starD_base hX
    clear hX
    go_simp
    try with_reducible rfl
    try (rw [if_neg (by first | omega | (simp [ByteArray.size_append, ByteArray.size]; omega) | (simp only [ByteArray.size_append]; omega))])
  replace hS := (SD_put (n := 24) (i := 9) (by decide) _ _ (by first | kernel_rfl | simp)).2 hS
  try simp only [Act.put, List.setIfInBounds_toArray, List.set_cons_zero, List.set_cons_succ]
  try simp only [List.setIfInBounds_toArray, List.set_cons_zero, List.set_cons_succ] at hS
  refine wpAnyD_take (n := 24) (i := 13) (v := ?v13) rfl (by kernel_rfl) (by kernel_rfl) (by kernel_rfl) (by kernel_rfl) (SD_put (by decide)) (fun _ _ _ h => h) (closed_all (by kernel_rfl)) (Or.inl ⟨by rfl, ?y13⟩) hS ?r13
  case y13 =>
    intro X hX
    clear hX
    go_simp
    try with_reducible rfl
    try (rw [if_neg (by first | omega | (simp [ByteArray.size_append, ByteArray.size]; omega) | (simp only [ByteArray.size_append]; omega))])
  replace hS := (SD_put (n := 24) (i := 13) (by decide) _ _ (by first | kernel_rfl | simp)).2 hS
  try simp only [Act.put, List.setIfInBounds_toArray, List.set_cons_zero, List.set_cons_succ]
  try simp only [List.setIfInBounds_toArray, List.set_cons_zero, List.set_cons_succ] at hS
  refine wpAnyD_take (n := 24) (i := 14) (v := ?v14) rfl (by kernel_rfl) (by kernel_rfl) (by kernel_rfl) (by kernel_rfl) (SD_put (by decide)) (fun _ _ _ h => h) (closed_all (by kernel_rfl)) (Or.inl ⟨by rfl, ?y14⟩) hS ?r14
  case y14 =>
    intro X hX
    have xb := starD_base hX
    clear hX
    go_simp
    try with_reducible rfl
    try (rw [if_neg (by first | omega | (simp [ByteArray.size_append, ByteArray.size]; omega) | (simp only [ByteArray.size_append]; omega))])
  replace hS := (SD_put (n := 24) (i := 14) (by decide) _ _ (by first | kernel_rfl | simp)).2 hS
  try simp only [Act.put, List.setIfInBounds_toArray, List.set_cons_zero, List.set_cons_succ]
  try simp only [List.setIfInBounds_toArray, List.set_cons_zero, List.set_cons_succ] at hS
  refine wpAnyD_take (n := 24) (i := 18) (v := ?v18) rfl (by kernel_rfl) (by kernel_rfl) (by kernel_rfl) (by kernel_rfl) (SD_put (by decide)) (fun _ _ _ h => h) (closed_all (by kernel_rfl)) (Or.inl ⟨by rfl, ?y18⟩) hS ?r18
  case y18 =>
    intro X hX
    clear hX
    go_simp
    try with_reducible rfl
    try (rw [if_neg (by first | omega | (simp [ByteArray.size_append, ByteArray.size]; omega) | (simp only [ByteArray.size_append]; omega))])
  replace hS := (SD_put (n := 24) (i := 18) (by decide) _ _ (by first | kernel_rfl | simp)).2 hS
  try simp only [Act.put, List.setIfInBounds_toArray, List.set_cons_zero, List.set_cons_succ]
  try simp only [List.setIfInBounds_toArray, List.set_cons_zero, List.set_cons_succ] at hS
  refine wpAnyD_take (n := 24) (i := 19) (v := ?v19) rfl (by kernel_rfl) (by kernel_rfl) (by kernel_rfl) (by kernel_rfl) (SD_put (by decide)) (fun _ _ _ h => h) (closed_all (by kernel_rfl)) (Or.inl ⟨by rfl, ?y19⟩) hS ?r19
  case y19 =>
    intro X hX
    have xb := starD_base hX
    clear hX
    go_simp
    try with_reducible rfl
    try (rw [if_neg (by first | omega | (simp [ByteArray.size_append, ByteArray.size]; omega) | (simp only [ByteArray.size_append]; omega))])
  replace hS := (SD_put (n := 24) (i := 19) (by decide) _ _ (by first | kernel_rfl | simp)).2 hS
  try simp only [Act.put, List.setIfInBounds_toArray, List.set_cons_zero, List.set_cons_succ]
  try simp only [List.setIfInBounds_toArray, List.set_cons_zero, List.set_cons_succ] at hS
  refine wpAnyG_ready (rs := [0]) (by kernel_rfl) (by simp) ?_
  refine AllReadyG.cons rfl (fun K hK => ?_) AllReadyG.nil
  go_simp
  refine (rops_any _).mono ?_; rintro e w2 ⟨rfl, rfl⟩
  go_simp
  refine hK.out _ _ ⟨by simp [go_sem, *], fun _ => by simp [go_sem, *]⟩ (fun hS' => ?_)
  clear hK K hS; have hS := hS'; clear hS'
  try simp only [Act.put, List.setIfInBounds_toArray, List.set_cons_zero, List.set_cons_succ]
  try simp only [List.setIfInBounds_toArray, List.set_cons_zero, List.set_cons_succ] at hS
  refine wpAnyD_take (n := 24) (i := 3) (v := ?v3) rfl (by kernel_rfl) (by kernel_rfl) (by kernel_rfl) (by kernel_rfl) (SD_put (by decide)) (fun _ _ _ h => h) (closed_all (by kernel_rfl)) (Or.inl ⟨by rfl, ?y3⟩) hS ?r3
  case y3 =>
    intro X hX
    clear hX
    go_simp
    try with_reducible rfl
    try (rw [if_neg (by first | omega | (simp [ByteArray.size_append, ByteArray.size]; omega) | (simp only [ByteArray.size_append]; omega))])
  replace hS := (SD_put (n := 24) (i := 3) (by decide) _ _ (by first | kernel_rfl | simp)).2 hS
  try simp only [Act.put, List.setIfInBounds_toArray, List.set_cons_zero, List.set_cons_succ]
  try simp only [List.setIfInBounds_toArray, List.set_cons_zero, List.set_cons_succ] at hS
  refine wpAnyD_take (n := 24) (i := 4) (v := ?v4) rfl (by kernel_rfl) (by kernel_rfl) (by kernel_rfl) (by kernel_rfl) (SD_put (by decide)) (fun _ _ _ h => h) (closed_all (by kernel_rfl)) (Or.inl ⟨by rfl, ?y4⟩) hS ?r4
  case y4 =>
    intro X hX
    have xc := starD_late hX (m := 3) (by kernel_rfl) (.inr (by kernel_rfl))
    clear hX
    go_simp
    try with_reducible rfl
    try (rw [if_neg (by first | omega | (simp [ByteArray.size_append, ByteArray.size]; omega) | (simp only [ByteArray.size_append]; omega))])
  replace hS := (SD_put (n := 24) (i := 4) (by decide) _ _ (by first | kernel_rfl | simp)).2 hS
  try simp only [Act.put, List.setIfInBounds_toArray, List.set_cons_zero, List.set_cons_succ]
  try simp only [List.setIfInBounds_toArray, List.set_cons_zero, List.set_cons_succ] at hS
  refine wpAnyD_take (n := 24) (i := 6) (v := ?v6) rfl (by kernel_rfl) (by kernel_rfl) (by kernel_rfl) (by kernel_rfl) (SD_put (by decide)) (fun _ _ _ h => h) (closed_all (by kernel_rfl)) (Or.inl ⟨by rfl, ?y6⟩) hS ?r6
  case y6 =>
    intro X hX
    clear hX
    go_simp
    try with_reducible rfl
    try (rw [if_neg (by first | omega | (simp [ByteArray.size_append, ByteArray.size]; omega) | (simp only [ByteArray.size_append]; omega))])
  replace hS := (SD_put (n := 24) (i := 6) (by decide) _ _ (by first | kernel_rfl | simp)).2 hS
  try simp only [Act.put, List.setIfInBounds_toArray, List.set_cons_zero, List.set_cons_succ]
  try simp only [List.setIfInBounds_toArray, List.set_cons_zero, List.set_cons_succ] at hS
  refine wpAnyD_take (n := 24) (i := 7) (v := ?v7) rfl (by kernel_rfl) (by kernel_rfl) (by kernel_rfl) (by kernel_rfl) (SD_put (by decide)) (fun _ _ _ h => h) (closed_all (by kernel_rfl)) (Or.inl ⟨by rfl, ?y7⟩) hS ?r7
  case y7 =>
    intro X hX
    clear hX
    go_simp
    try with_reducible rfl
    try (rw [if_neg (by first | omega | (simp [ByteArray.size_append, ByteArray.size]; omega) | (simp only [ByteArray.size_append]; omega))])
  replace hS := (SD_put (n := 24) (i := 7) (by decide) _ _ (by first | kernel_rfl | simp)).2 hS
  try simp only [Act.put, List.setIfInBounds_toArray, List.set_cons_zero, List.set_cons_succ]
  try simp only [List.setIfInBounds_toArray, List.set_cons_zero, List.set_cons_succ] at hS
  refine wpAnyG_ready (rs := [10]) (by kernel_rfl) (by simp) ?_
  refine AllReadyG.cons rfl (fun K hK => ?_) AllReadyG.nil
  go_simp
  refine (Ha.out _).mono ?_; rintro e w2 ⟨rfl, g1, rfl⟩
  go_simp
  refine hK.out _ _ ⟨by simp [go_sem, *], fun _ => by simp [go_sem, *]⟩ (fun hS' => ?_)
  clear hK K hS; have hS := hS'; clear hS'
  try simp only [Act.put, List.setIfInBounds_toArray, List.set_cons_zero, List.set_cons_succ]
  try simp only [List.setIfInBounds_toArray, List.set_cons_zero, List.set_cons_succ] at hS
  refine wpAnyD_take (n := 24) (i := 11) (v := ?v11) rfl (by kernel_rfl) (by kernel_rfl) (by kernel_rfl) (by kernel_rfl) (SD_put (by decide)) (fun _ _ _ h => h) (closed_all (by kernel_rfl)) (Or.inl ⟨by rfl, ?y11⟩) hS ?r11
  case y11 =>
    intro X hX
    clear hX
    go_simp
    try with_reducible rfl
    try (rw [if_neg (by first | omega | (simp [ByteArray.size_append, ByteArray.size]; omega) | (simp only [ByteArray.size_append]; omega))])
  replace hS := (SD_put (n := 24) (i := 11) (by decide) _ _ (by first | kernel_rfl | simp)).2 hS
  try simp only [Act.put, List.setIfInBounds_toArray, List.set_cons_zero, List.set_cons_succ]
  try simp only [List.setIfInBounds_toArray, List.set_cons_zero, List.set_cons_succ] at hS
  refine wpAnyD_take (n := 24) (i := 12) (v := ?v12) rfl (by kernel_rfl) (by kernel_rfl) (by kernel_rfl) (by kernel_rfl) (SD_put (by decide)) (fun _ _ _ h => h) (closed_all (by kernel_rfl)) (Or.inl ⟨by rfl, ?y12⟩) hS ?r12
  case y12 =>
    intro X hX
    clear hX
    go_simp
    try with_reducible rfl
    try (rw [if_neg (by first | omega | (simp [ByteArray.size_append, ByteArray.size]; omega) | (simp only [ByteArray.size_append]; omega))])
  replace hS := (SD_put (n := 24) (i := 12) (by decide) _ _ (by first | kernel_rfl | simp)).2 hS
  try simp only [Act.put, List.setIfInBounds_toArray, List.set_cons_zero, List.set_cons_succ]
  try simp only [List.setIfInBounds_toArray, List.set_cons_zero, List.set_cons_succ] at hS
  refine wpAnyG_ready (rs := [15]) (by kernel_rfl) (by simp) ?_
  refine AllReadyG.cons rfl (fun K hK => ?_) AllReadyG.nil
  go_simp
  refine (Hb.out _).mono ?_; rintro e w2 ⟨rfl, g2, rfl⟩
  go_simp
  refine hK.out _ _ ⟨by simp [go_sem, *], fun _ => by simp [go_sem, *]⟩ (fun hS' => ?_)
  clear hK K hS; have hS := hS'; clear hS'
  try simp only [Act.put, List.setIfInBounds_toArray, List.set_cons_zero, List.set_cons_succ]
  try simp only [List.setIfInBounds_toArray, List.set_cons_zero, List.set_cons_succ] at hS
  refine wpAnyD_take (n := 24) (i := 16) (v := ?v16) rfl (by kernel_rfl) (by kernel_rfl) (by kernel_rfl) (by kernel_rfl) (SD_put (by decide)) (fun _ _ _ h => h) (closed_all (by kernel_rfl)) (Or.inl ⟨by rfl, ?y16⟩) hS ?r16
  case y16 =>
    intro X hX
    clear hX
    go_simp
    try with_reducible rfl
    try (rw [if_neg (by first | omega | (simp [ByteArray.size_append, ByteArray.size]; omega) | (simp only [ByteArray.size_append]; omega))])
  replace hS := (SD_put (n := 24) (i := 16) (by decide) _ _ (by first | kernel_rfl | simp)).2 hS
  try simp only [Act.put, List.setIfInBounds_toArray, List.set_cons_zero, List.set_cons_succ]
  try simp only [List.setIfInBounds_toArray, List.set_cons_zero, List.set_cons_succ] at hS
  refine wpAnyD_take (n := 24) (i := 17) (v := ?v17) rfl (by kernel_rfl) (by kernel_rfl) (by kernel_rfl) (by kernel_rfl) (SD_put (by decide)) (fun _ _ _ h => h) (closed_all (by kernel_rfl)) (Or.inl ⟨by rfl, ?y17⟩) hS ?r17
  case y17 =>
    intro X hX
    clear hX
    go_simp
    try with_reducible rfl
    try (rw [if_neg (by first | omega | (simp [ByteArray.size_append, ByteArray.size]; omega) | (simp only [ByteArray.size_append]; omega))])
  replace hS := (SD_put (n := 24) (i := 17) (by decide) _ _ (by first | kernel_rfl | simp)).2 hS
  try simp only [Act.put, List.setIfInBounds_toArray, List.set_cons_zero, List.set_cons_succ]
  try simp only [List.setIfInBounds_toArray, List.set_cons_zero, List.set_cons_succ] at hS
  refine wpAnyG_ready (rs := [20]) (by kernel_rfl) (by simp) ?_
  refine AllReadyG.cons rfl (fun K hK => ?_) AllReadyG.nil
  go_simp
  refine (Hc.out _).mono ?_; rintro e w2 ⟨rfl, g3, rfl⟩
  go_simp
  refine hK.out _ _ ⟨by simp [go_sem, *], fun _ => by simp [go_sem, *]⟩ (fun hS' => ?_)
  clear hK K hS; have hS := hS'; clear hS'
  try simp only [Act.put, List.setIfInBounds_toArray, List.set_cons_zero, List.set_cons_succ]
  try simp only [List.setIfInBounds_toArray, List.set_cons_zero, List.set_cons_succ] at hS
  refine wpAnyD_take (n := 24) (i := 21) (v := ?v21) rfl (by kernel_rfl) (by kernel_rfl) (by kernel_rfl) (by kernel_rfl) (SD_put (by decide)) (fun _ _ _ h => h) (closed_all (by kernel_rfl)) (Or.inl ⟨by rfl, ?y21⟩) hS ?r21
  case y21 =>
    intro X hX
    clear hX
    go_simp
    try with_reducible rfl
    try (rw [if_neg (by first | omega | (simp [ByteArray.size_append, ByteArray.size]; omega) | (simp only [ByteArray.size_append]; omega))])
  replace hS := (SD_put (n := 24) (i := 21) (by decide) _ _ (by first | kernel_rfl | simp)).2 hS
  try simp only [Act.put, List.setIfInBounds_toArray, List.set_cons_zero, List.set_cons_succ]
  try simp only [List.setIfInBounds_toArray, List.set_cons_zero, List.set_cons_succ] at hS
  refine wpAnyD_take (n := 24) (i := 22) (v := ?v22) rfl (by kernel_rfl) (by kernel_rfl) (by kernel_rfl) (by kernel_rfl) (SD_put (by decide)) (fun _ _ _ h => h) (closed_all (by kernel_rfl)) (Or.inl ⟨by rfl, ?y22⟩) hS ?r22
  case y22 =>
    intro X hX
    clear hX
    go_simp
    try with_reducible rfl
    try (rw [if_neg (by first | omega | (simp [ByteArray.size_append, ByteArray.size]; omega) | (simp only [ByteArray.size_append]; omega))])
  replace hS := (SD_put (n := 24) (i := 22) (by decide) _ _ (by first | kernel_rfl | simp)).2 hS
  try simp only [Act.put, List.setIfInBounds_toArray, List.set_cons_zero, List.set_cons_succ]
  try simp only [List.setIfInBounds_toArray, List.set_cons_zero, List.set_cons_succ] at hS
  refine wpAnyD_take (n := 24) (i := 23) (v := ?v23) rfl (by kernel_rfl) (by kernel_rfl) (by kernel_rfl) (by kernel_rfl) (SD_put (by decide)) (fun _ _ _ h => h) (closed_all (by kernel_rfl)) (Or.inl ⟨by rfl, ?y23⟩) hS ?r23
  case y23 =>
    intro X hX
    clear hX
    go_simp
    try with_reducible rfl
    try (rw [if_neg (by first | omega | (simp [ByteArray.size_append, ByteArray.size]; omega) | (simp only [ByteArray.size_append]; omega))])
  replace hS := (SD_put (n := 24) (i := 23) (by decide) _ _ (by first | kernel_rfl | simp)).2 hS
  try simp only [Act.put, List.setIfInBounds_toArray, List.set_cons_zero, List.set_cons_succ]
  try simp only [List.setIfInBounds_toArray, List.set_cons_zero, List.set_cons_succ] at hS
  refine wpAnyG_done (by kernel_rfl) ?_ _
  clear hS hC
  go_wp2
  go_ret2
  exact ⟨rfl, more_of_below (HBW.out.trans (by have hws := HBW.out.size; exact (by repeat' (first | (with_reducible exact Below.refl _ _) | (with_reducible assumption) | (with_reducible refine below_more ?_ ?_ _) | (with_reducible refine below_drewN ?_ _) | (with_reducible refine Below.drew ?_) | (with_reducible refine Below.alloc ?_ ?_ _) | (with_reducible refine Below.setCell ?_ ?_ _) | go_size | (simp [more_size]; done) | (simp [more_size]; omega)))))⟩
set_option maxRecDepth 100000 in
set_option maxHeartbeats 3200000 in
theorem rline0tf_any (z : Int)  (a b c : Int) (i : Nat) (w : World) (NM : ByteArray) (hNM : NM.size ≤ 10) (hi : i < 12) (hT : (As.scs As.ops)[i]? = some (.string NM)) (Ra : ByteArray) (ha : Ra.size ≤ 12) (Ha : Hid (∀ w, Calls Tryd.prog 11 #[.int .i64 a] w fun e w2 => e = .returned (.string Ra) ∧ ∃ g, w2 = more w g)) (Rb : ByteArray) (hb : Rb.size ≤ 12) (Hb : Hid (∀ w, Calls Tryd.prog 11 #[.int .i64 b] w fun e w2 => e = .returned (.string Rb) ∧ ∃ g, w2 = more w g)) (Rc : ByteArray) (hc : Rc.size ≤ 12) (Hc : Hid (∀ w, Calls Tryd.prog 11 #[.int .i64 c] w fun e w2 => e = .returned (.string Rc) ∧ ∃ g, w2 = more w g)) 
    (HD : Hid (∀ w, Calls Tryd.prog 9 #[.int .u32 z] w fun e w' => e = .returned (.tuple #[.agg #[.int .i64 0, .bool true, .bool false, .int .i64 a, .int .i64 b, .int .i64 c, .int .i64 (i : Int), .int .i64 0], .int .i64 0]) ∧ ∃ g, w' = more w g)) :
    Calls Tryd.prog 5 #[.int .u32 z] w fun e w' => e = .returned (.tuple #[.string (NM ++ ⟨#[39]⟩ ++ ⟨#[32]⟩ ++ Ra ++ ⟨#[44, 32]⟩ ++ Rb ++ ⟨#[44, 32]⟩ ++ Rc), .int .i64 0]) ∧ ∃ g, w' = more w g := by
  go_enter Tryd.func5, Tryd.ntmps5
  go_wp2_with (go_at_call 9; (with_reducible refine (HD.out _).mono ?_); rintro e w2 ⟨rfl, g, rfl⟩)
  obtain ⟨bx, hbx⟩ : ∃ bx, bx = w.heap.size + g.o.size := ⟨_, rfl⟩
  have hc : ∀ (j : Nat) (xv : Value), (#[Value.int .i64 0, .bool true, .bool false, .int .i64 a, .int .i64 b, .int .i64 c, .int .i64 (i : Int), .int .i64 0] : Array Value)[j]? = some xv → ((more w g).alloc (.cells #[.int .i64 0, .bool true, .bool false, .int .i64 a, .int .i64 b, .int .i64 c, .int .i64 (i : Int), .int .i64 0] 33)).cell? ⟨bx, j, none⟩ = some xv := fun j xv h => by
    rw [hbx]
    have := (MapKept.heap_alloc (more w g) (.cells #[.int .i64 0, .bool true, .bool false, .int .i64 a, .int .i64 b, .int .i64 c, .int .i64 (i : Int), .int .i64 0] 33 (0, 0))).1
    rw [more_size] at this
    rw [cell_of_row _ _ _ _ _ _ this]; exact h
  have y0 := hc 0 _ rfl
  have y1 := hc 1 _ rfl
  have y2 := hc 2 _ rfl
  have y3 := hc 3 _ rfl
  have y4 := hc 4 _ rfl
  have y5 := hc 5 _ rfl
  have y6 := hc 6 _ rfl
  have y7 := hc 7 _ rfl
  rw [← hbx]
  have ybx : bx < ((more w g).alloc (.cells #[.int .i64 0, .bool true, .bool false, .int .i64 a, .int .i64 b, .int .i64 c, .int .i64 (i : Int), .int .i64 0] 33)).heap.size := by rw [As.sz3, more_size]; omega
  clear hc hbx
  have HBW : Below w.heap.size w ((more w g).alloc (.cells #[.int .i64 0, .bool true, .bool false, .int .i64 a, .int .i64 b, .int .i64 c, .int .i64 (i : Int), .int .i64 0] 33)) := (by repeat' (first | (with_reducible exact Below.refl _ _) | (with_reducible assumption) | (with_reducible refine below_more ?_ ?_ _) | (with_reducible refine below_drewN ?_ _) | (with_reducible refine Below.drew ?_) | (with_reducible refine Below.alloc ?_ ?_ _) | (with_reducible refine Below.setCell ?_ ?_ _) | go_size | (simp [more_size]; done) | (simp [more_size]; omega)))
  generalize ((more w g).alloc (.cells #[.int .i64 0, .bool true, .bool false, .int .i64 a, .int .i64 b, .int .i64 c, .int .i64 (i : Int), .int .i64 0] 33)) = W at *
  replace HBW := Lib.hid HBW
  have hi0 : (0 : Int) ≤ (i : Int) := by omega
  have hi1 : (i : Int) < 12 := by omega
  go_wp2_with fail
  have HW0 := Lib.hid (show (fun X => X.cell? ⟨bx, 3, none⟩ = some (.int .i64 a) ∧ X.cell? ⟨bx, 4, none⟩ = some (.int .i64 b) ∧ X.cell? ⟨bx, 5, none⟩ = some (.int .i64 c) ∧ X.cell? ⟨bx, 6, none⟩ = some (.int .i64 (i : Int))) W.drew ∧ True from ⟨by simp [go_sem, *], trivial⟩)
  refine wp_region_G (SD 0 (fun X => X.cell? ⟨bx, 3, none⟩ = some (.int .i64 a) ∧ X.cell? ⟨bx, 4, none⟩ = some (.int .i64 b) ∧ X.cell? ⟨bx, 5, none⟩ = some (.int .i64 c) ∧ X.cell? ⟨bx, 6, none⟩ = some (.int .i64 (i : Int))) (fun X => X.cell? ⟨W.heap.size, i, none⟩ = some (.string NM))) 24 (by kernel_rfl) (by kernel_rfl) ⟨HW0.out.1, fun h => absurd h (by decide)⟩ (fun hC hS => ?_)
  clear HW0
  refine wpAnyD_take (n := 24) (i := 1) (v := ?v1) rfl (by kernel_rfl) (by kernel_rfl) (by kernel_rfl) (by kernel_rfl) (SD_put (by decide)) (fun _ _ _ h => h) (closed_all (by kernel_rfl)) (Or.inl ⟨by rfl, ?y1⟩) hS ?r1
  case y1 =>
    intro X hX
    clear hX
    go_simp
    try with_reducible rfl
    try (rw [if_neg (by first | omega | (simp [ByteArray.size_append, ByteArray.size]; omega) | (simp only [ByteArray.size_append]; omega))])
  replace hS := (SD_put (n := 24) (i := 1) (by decide) _ _ (by first | kernel_rfl | simp)).2 hS
  try simp only [Act.put, List.setIfInBounds_toArray, List.set_cons_zero, List.set_cons_succ]
  try simp only [List.setIfInBounds_toArray, List.set_cons_zero, List.set_cons_succ] at hS
  refine wpAnyD_take (n := 24) (i := 2) (v := ?v2) rfl (by kernel_rfl) (by kernel_rfl) (by kernel_rfl) (by kernel_rfl) (SD_put (by decide)) (fun _ _ _ h => h) (closed_all (by kernel_rfl)) (Or.inl ⟨by rfl, ?y2⟩) hS ?r2
  case y2 =>
    intro X hX
    have xb := starD_base hX
    clear hX
    go_simp
    try with_reducible rfl
    try (rw [if_neg (by first | omega | (simp [ByteArray.size_append, ByteArray.size]; omega) | (simp only [ByteArray.size_append]; omega))])
  replace hS := (SD_put (n := 24) (i := 2) (by decide) _ _ (by first | kernel_rfl | simp)).2 hS
  try simp only [Act.put, List.setIfInBounds_toArray, List.set_cons_zero, List.set_cons_succ]
  try simp only [List.setIfInBounds_toArray, List.set_cons_zero, List.set_cons_succ] at hS
  refine wpAnyD_take (n := 24) (i := 5) (v := ?v5) rfl (by kernel_rfl) (by kernel_rfl) (by kernel_rfl) (by kernel_rfl) (SD_put (by decide)) (fun _ _ _ h => h) (closed_all (by kernel_rfl)) (Or.inl ⟨by rfl, ?y5⟩) hS ?r5
  case y5 =>
    intro X hX
    clear hX
    go_simp
    try with_reducible rfl
    try (rw [if_neg (by first | omega | (simp [ByteArray.size_append, ByteArray.size]; omega) | (simp only [ByteArray.size_append]; omega))])
  replace hS := (SD_put (n := 24) (i := 5) (by decide) _ _ (by first | kernel_rfl | simp)).2 hS
  try simp only [Act.put, List.setIfInBounds_toArray, List.set_cons_zero, List.set_cons_succ]
  try simp only [List.setIfInBounds_toArray, List.set_cons_zero, List.set_cons_succ] at hS
  refine wpAnyD_take (n := 24) (i := 8) (v := ?v8) rfl (by kernel_rfl) (by kernel_rfl) (by kernel_rfl) (by kernel_rfl) (SD_put (by decide)) (fun _ _ _ h => h) (closed_all (by kernel_rfl)) (Or.inl ⟨by rfl, ?y8⟩) hS ?r8
  case y8 =>
    intro X hX
    clear hX
    go_simp
    try with_reducible rfl
    try (rw [if_neg (by first | omega | (simp [ByteArray.size_append, ByteArray.size]; omega) | (simp only [ByteArray.size_append]; omega))])
  replace hS := (SD_put (n := 24) (i := 8) (by decide) _ _ (by first | kernel_rfl | simp)).2 hS
  try simp only [Act.put, List.setIfInBounds_toArray, List.set_cons_zero, List.set_cons_succ]
  try simp only [List.setIfInBounds_toArray, List.set_cons_zero, List.set_cons_succ] at hS
  refine wpAnyD_take (n := 24) (i := 9) (v := ?v9) rfl (by kernel_rfl) (by kernel_rfl) (by kernel_rfl) (by kernel_rfl) (SD_put (by decide)) (fun _ _ _ h => h) (closed_all (by kernel_rfl)) (Or.inl ⟨by rfl, ?y9⟩) hS ?r9
  case y9 =>
    intro X hX
    have xb := starD_base hX
    clear hX
    go_simp
    try with_reducible rfl
    try (rw [if_neg (by first | omega | (simp [ByteArray.size_append, ByteArray.size]; omega) | (simp only [ByteArray.size_append]; omega))])
  replace hS := (SD_put (n := 24) (i := 9) (by decide) _ _ (by first | kernel_rfl | simp)).2 hS
  try simp only [Act.put, List.setIfInBounds_toArray, List.set_cons_zero, List.set_cons_succ]
  try simp only [List.setIfInBounds_toArray, List.set_cons_zero, List.set_cons_succ] at hS
  refine wpAnyD_take (n := 24) (i := 13) (v := ?v13) rfl (by kernel_rfl) (by kernel_rfl) (by kernel_rfl) (by kernel_rfl) (SD_put (by decide)) (fun _ _ _ h => h) (closed_all (by kernel_rfl)) (Or.inl ⟨by rfl, ?y13⟩) hS ?r13
  case y13 =>
    intro X hX
    clear hX
    go_simp
    try with_reducible rfl
    try (rw [if_neg (by first | omega | (simp [ByteArray.size_append, ByteArray.size]; omega) | (simp only [ByteArray.size_append]; omega))])
  replace hS := (SD_put (n := 24) (i := 13) (by decide) _ _ (by first | kernel_rfl | simp)).2 hS
  try simp only [Act.put, List.setIfInBounds_toArray, List.set_cons_zero, List.set_cons_succ]
  try simp only [List.setIfInBounds_toArray, List.set_cons_zero, List.set_cons_succ] at hS
  refine wpAnyD_take (n := 24) (i := 14) (v := ?v14) rfl (by kernel_rfl) (by kernel_rfl) (by kernel_rfl) (by kernel_rfl) (SD_put (by decide)) (fun _ _ _ h => h) (closed_all (by kernel_rfl)) (Or.inl ⟨by rfl, ?y14⟩) hS ?r14
  case y14 =>
    intro X hX
    have xb := starD_base hX
    clear hX
    go_simp
    try with_reducible rfl
    try (rw [if_neg (by first | omega | (simp [ByteArray.size_append, ByteArray.size]; omega) | (simp only [ByteArray.size_append]; omega))])
  replace hS := (SD_put (n := 24) (i := 14) (by decide) _ _ (by first | kernel_rfl | simp)).2 hS
  try simp only [Act.put, List.setIfInBounds_toArray, List.set_cons_zero, List.set_cons_succ]
  try simp only [List.setIfInBounds_toArray, List.set_cons_zero, List.set_cons_succ] at hS
  refine wpAnyD_take (n := 24) (i := 18) (v := ?v18) rfl (by kernel_rfl) (by kernel_rfl) (by kernel_rfl) (by kernel_rfl) (SD_put (by decide)) (fun _ _ _ h => h) (closed_all (by kernel_rfl)) (Or.inl ⟨by rfl, ?y18⟩) hS ?r18
  case y18 =>
    intro X hX
    clear hX
    go_simp
    try with_reducible rfl
    try (rw [if_neg (by first | omega | (simp [ByteArray.size_append, ByteArray.size]; omega) | (simp only [ByteArray.size_append]; omega))])
  replace hS := (SD_put (n := 24) (i := 18) (by decide) _ _ (by first | kernel_rfl | simp)).2 hS
  try simp only [Act.put, List.setIfInBounds_toArray, List.set_cons_zero, List.set_cons_succ]
  try simp only [List.setIfInBounds_toArray, List.set_cons_zero, List.set_cons_succ] at hS
  refine wpAnyD_take (n := 24) (i := 19) (v := ?v19) rfl (by kernel_rfl) (by kernel_rfl) (by kernel_rfl) (by kernel_rfl) (SD_put (by decide)) (fun _ _ _ h => h) (closed_all (by kernel_rfl)) (Or.inl ⟨by rfl, ?y19⟩) hS ?r19
  case y19 =>
    intro X hX
    have xb := starD_base hX
    clear hX
    go_simp
    try with_reducible rfl
    try (rw [if_neg (by first | omega | (simp [ByteArray.size_append, ByteArray.size]; omega) | (simp only [ByteArray.size_append]; omega))])
  replace hS := (SD_put (n := 24) (i := 19) (by decide) _ _ (by first | kernel_rfl | simp)).2 hS
  try simp only [Act.put, List.setIfInBounds_toArray, List.set_cons_zero, List.set_cons_succ]
  try simp only [List.setIfInBounds_toArray, List.set_cons_zero, List.set_cons_succ] at hS
  refine wpAnyG_ready (rs := [0]) (by kernel_rfl) (by simp) ?_
  refine AllReadyG.cons rfl (fun K hK => ?_) AllReadyG.nil
  go_simp
  refine (rops_any _).mono ?_; rintro e w2 ⟨rfl, rfl⟩
  go_simp
  refine hK.out _ _ ⟨by simp [go_sem, *], fun _ => by simp [go_sem, *]⟩ (fun hS' => ?_)
  clear hK K hS; have hS := hS'; clear hS'
  try simp only [Act.put, List.setIfInBounds_toArray, List.set_cons_zero, List.set_cons_succ]
  try simp only [List.setIfInBounds_toArray, List.set_cons_zero, List.set_cons_succ] at hS
  refine wpAnyD_take (n := 24) (i := 3) (v := ?v3) rfl (by kernel_rfl) (by kernel_rfl) (by kernel_rfl) (by kernel_rfl) (SD_put (by decide)) (fun _ _ _ h => h) (closed_all (by kernel_rfl)) (Or.inl ⟨by rfl, ?y3⟩) hS ?r3
  case y3 =>
    intro X hX
    clear hX
    go_simp
    try with_reducible rfl
    try (rw [if_neg (by first | omega | (simp [ByteArray.size_append, ByteArray.size]; omega) | (simp only [ByteArray.size_append]; omega))])
  replace hS := (SD_put (n := 24) (i := 3) (by decide) _ _ (by first | kernel_rfl | simp)).2 hS
  try simp only [Act.put, List.setIfInBounds_toArray, List.set_cons_zero, List.set_cons_succ]
  try simp only [List.setIfInBounds_toArray, List.set_cons_zero, List.set_cons_succ] at hS
  refine wpAnyD_take (n := 24) (i := 4) (v := ?v4) rfl (by kernel_rfl) (by kernel_rfl) (by kernel_rfl) (by kernel_rfl) (SD_put (by decide)) (fun _ _ _ h => h) (closed_all (by kernel_rfl)) (Or.inl ⟨by rfl, ?y4⟩) hS ?r4
  case y4 =>
    intro X hX
    have xc := starD_late hX (m := 3) (by kernel_rfl) (.inr (by kernel_rfl))
    clear hX
    go_simp
    try with_reducible rfl
    try (rw [if_neg (by first | omega | (simp [ByteArray.size_append, ByteArray.size]; omega) | (simp only [ByteArray.size_append]; omega))])
  replace hS := (SD_put (n := 24) (i := 4) (by decide) _ _ (by first | kernel_rfl | simp)).2 hS
  try simp only [Act.put, List.setIfInBounds_toArray, List.set_cons_zero, List.set_cons_succ]
  try simp only [List.setIfInBounds_toArray, List.set_cons_zero, List.set_cons_succ] at hS
  refine wpAnyD_take (n := 24) (i := 6) (v := ?v6) rfl (by kernel_rfl) (by kernel_rfl) (by kernel_rfl) (by kernel_rfl) (SD_put (by decide)) (fun _ _ _ h => h) (closed_all (by kernel_rfl)) (Or.inl ⟨by rfl, ?y6⟩) hS ?r6
  case y6 =>
    intro X hX
    clear hX
    go_simp
    try with_reducible rfl
    try (rw [if_neg (by first | omega | (simp [ByteArray.size_append, ByteArray.size]; omega) | (simp only [ByteArray.size_append]; omega))])
  replace hS := (SD_put (n := 24) (i := 6) (by decide) _ _ (by first | kernel_rfl | simp)).2 hS
  try simp only [Act.put, List.setIfInBounds_toArray, List.set_cons_zero, List.set_cons_succ]
  try simp only [List.setIfInBounds_toArray, List.set_cons_zero, List.set_cons_succ] at hS
  refine wpAnyD_take (n := 24) (i := 7) (v := ?v7) rfl (by kernel_rfl) (by kernel_rfl) (by kernel_rfl) (by kernel_rfl) (SD_put (by decide)) (fun _ _ _ h => h) (closed_all (by kernel_rfl)) (Or.inl ⟨by rfl, ?y7⟩) hS ?r7
  case y7 =>
    intro X hX
    clear hX
    go_simp
    try with_reducible rfl
    try (rw [if_neg (by first | omega | (simp [ByteArray.size_append, ByteArray.size]; omega) | (simp only [ByteArray.size_append]; omega))])
  replace hS := (SD_put (n := 24) (i := 7) (by decide) _ _ (by first | kernel_rfl | simp)).2 hS
  try simp only [Act.put, List.setIfInBounds_toArray, List.set_cons_zero, List.set_cons_succ]
  try simp only [List.setIfInBounds_toArray, List.set_cons_zero, List.set_cons_succ] at hS
  refine wpAnyG_ready (rs := [10]) (by kernel_rfl) (by simp) ?_
  refine AllReadyG.cons rfl (fun K hK => ?_) AllReadyG.nil
  go_simp
  refine (Ha.out _).mono ?_; rintro e w2 ⟨rfl, g1, rfl⟩
  go_simp
  refine hK.out _ _ ⟨by simp [go_sem, *], fun _ => by simp [go_sem, *]⟩ (fun hS' => ?_)
  clear hK K hS; have hS := hS'; clear hS'
  try simp only [Act.put, List.setIfInBounds_toArray, List.set_cons_zero, List.set_cons_succ]
  try simp only [List.setIfInBounds_toArray, List.set_cons_zero, List.set_cons_succ] at hS
  refine wpAnyD_take (n := 24) (i := 11) (v := ?v11) rfl (by kernel_rfl) (by kernel_rfl) (by kernel_rfl) (by kernel_rfl) (SD_put (by decide)) (fun _ _ _ h => h) (closed_all (by kernel_rfl)) (Or.inl ⟨by rfl, ?y11⟩) hS ?r11
  case y11 =>
    intro X hX
    clear hX
    go_simp
    try with_reducible rfl
    try (rw [if_neg (by first | omega | (simp [ByteArray.size_append, ByteArray.size]; omega) | (simp only [ByteArray.size_append]; omega))])
  replace hS := (SD_put (n := 24) (i := 11) (by decide) _ _ (by first | kernel_rfl | simp)).2 hS
  try simp only [Act.put, List.setIfInBounds_toArray, List.set_cons_zero, List.set_cons_succ]
  try simp only [List.setIfInBounds_toArray, List.set_cons_zero, List.set_cons_succ] at hS
  refine wpAnyD_take (n := 24) (i := 12) (v := ?v12) rfl (by kernel_rfl) (by kernel_rfl) (by kernel_rfl) (by kernel_rfl) (SD_put (by decide)) (fun _ _ _ h => h) (closed_all (by kernel_rfl)) (Or.inl ⟨by rfl, ?y12⟩) hS ?r12
  case y12 =>
    intro X hX
    clear hX
    go_simp
    try with_reducible rfl
    try (rw [if_neg (by first | omega | (simp [ByteArray.size_append, ByteArray.size]; omega) | (simp only [ByteArray.size_append]; omega))])
  replace hS := (SD_put (n := 24) (i := 12) (by decide) _ _ (by first | kernel_rfl | simp)).2 hS
  try simp only [Act.put, List.setIfInBounds_toArray, List.set_cons_zero, List.set_cons_succ]
  try simp only [List.setIfInBounds_toArray, List.set_cons_zero, List.set_cons_succ] at hS
  refine wpAnyG_ready (rs := [15]) (by kernel_rfl) (by simp) ?_
  refine AllReadyG.cons rfl (fun K hK => ?_) AllReadyG.nil
  go_simp
  refine (Hb.out _).mono ?_; rintro e w2 ⟨rfl, g2, rfl⟩
  go_simp
  refine hK.out _ _ ⟨by simp [go_sem, *], fun _ => by simp [go_sem, *]⟩ (fun hS' => ?_)
  clear hK K hS; have hS := hS'; clear hS'
  try simp only [Act.put, List.setIfInBounds_toArray, List.set_cons_zero, List.set_cons_succ]
  try simp only [List.setIfInBounds_toArray, List.set_cons_zero, List.set_cons_succ] at hS
  refine wpAnyD_take (n := 24) (i := 16) (v := ?v16) rfl (by kernel_rfl) (by kernel_rfl) (by kernel_rfl) (by kernel_rfl) (SD_put (by decide)) (fun _ _ _ h => h) (closed_all (by kernel_rfl)) (Or.inl ⟨by rfl, ?y16⟩) hS ?r16
  case y16 =>
    intro X hX
    clear hX
    go_simp
    try with_reducible rfl
    try (rw [if_neg (by first | omega | (simp [ByteArray.size_append, ByteArray.size]; omega) | (simp only [ByteArray.size_append]; omega))])
  replace hS := (SD_put (n := 24) (i := 16) (by decide) _ _ (by first | kernel_rfl | simp)).2 hS
  try simp only [Act.put, List.setIfInBounds_toArray, List.set_cons_zero, List.set_cons_succ]
  try simp only [List.setIfInBounds_toArray, List.set_cons_zero, List.set_cons_succ] at hS
  refine wpAnyD_take (n := 24) (i := 17) (v := ?v17) rfl (by kernel_rfl) (by kernel_rfl) (by kernel_rfl) (by kernel_rfl) (SD_put (by decide)) (fun _ _ _ h => h) (closed_all (by kernel_rfl)) (Or.inl ⟨by rfl, ?y17⟩) hS ?r17
  case y17 =>
    intro X hX
    clear hX
    go_simp
    try with_reducible rfl
    try (rw [if_neg (by first | omega | (simp [ByteArray.size_append, ByteArray.size]; omega) | (simp only [ByteArray.size_append]; omega))])
  replace hS := (SD_put (n := 24) (i := 17) (by decide) _ _ (by first | kernel_rfl | simp)).2 hS
  try simp only [Act.put, List.setIfInBounds_toArray, List.set_cons_zero, List.set_cons_succ]
  try simp only [List.setIfInBounds_toArray, List.set_cons_zero, List.set_cons_succ] at hS
  refine wpAnyG_ready (rs := [20]) (by kernel_rfl) (by simp) ?_
  refine AllReadyG.cons rfl (fun K hK => ?_) AllReadyG.nil
  go_simp
  refine (Hc.out _).mono ?_; rintro e w2 ⟨rfl, g3, rfl⟩
  go_simp
  refine hK.out _ _ ⟨by simp [go_sem, *], fun _ => by simp [go_sem, *]⟩ (fun hS' => ?_)
  clear hK K hS; have hS := hS'; clear hS'
  try simp only [Act.put, List.setIfInBounds_toArray, List.set_cons_zero, List.set_cons_succ]
  try simp only [List.setIfInBounds_toArray, List.set_cons_zero, List.set_cons_succ] at hS
  refine wpAnyD_take (n := 24) (i := 21) (v := ?v21) rfl (by kernel_rfl) (by kernel_rfl) (by kernel_rfl) (by kernel_rfl) (SD_put (by decide)) (fun _ _ _ h => h) (closed_all (by kernel_rfl)) (Or.inl ⟨by rfl, ?y21⟩) hS ?r21
  case y21 =>
    intro X hX
    clear hX
    go_simp
    try with_reducible rfl
    try (rw [if_neg (by first | omega | (simp [ByteArray.size_append, ByteArray.size]; omega) | (simp only [ByteArray.size_append]; omega))])
  replace hS := (SD_put (n := 24) (i := 21) (by decide) _ _ (by first | kernel_rfl | simp)).2 hS
  try simp only [Act.put, List.setIfInBounds_toArray, List.set_cons_zero, List.set_cons_succ]
  try simp only [List.setIfInBounds_toArray, List.set_cons_zero, List.set_cons_succ] at hS
  refine wpAnyD_take (n := 24) (i := 22) (v := ?v22) rfl (by kernel_rfl) (by kernel_rfl) (by kernel_rfl) (by kernel_rfl) (SD_put (by decide)) (fun _ _ _ h => h) (closed_all (by kernel_rfl)) (Or.inl ⟨by rfl, ?y22⟩) hS ?r22
  case y22 =>
    intro X hX
    clear hX
    go_simp
    try with_reducible rfl
    try (rw [if_neg (by first | omega | (simp [ByteArray.size_append, ByteArray.size]; omega) | (simp only [ByteArray.size_append]; omega))])
  replace hS := (SD_put (n := 24) (i := 22) (by decide) _ _ (by first | kernel_rfl | simp)).2 hS
  try simp only [Act.put, List.setIfInBounds_toArray, List.set_cons_zero, List.set_cons_succ]
  try simp only [List.setIfInBounds_toArray, List.set_cons_zero, List.set_cons_succ] at hS
  refine wpAnyD_take (n := 24) (i := 23) (v := ?v23) rfl (by kernel_rfl) (by kernel_rfl) (by kernel_rfl) (by kernel_rfl) (SD_put (by decide)) (fun _ _ _ h => h) (closed_all (by kernel_rfl)) (Or.inl ⟨by rfl, ?y23⟩) hS ?r23
  case y23 =>
    intro X hX
    clear hX
    go_simp
    try with_reducible rfl
    try (rw [if_neg (by first | omega | (simp [ByteArray.size_append, ByteArray.size]; omega) | (simp only [ByteArray.size_append]; omega))])
  replace hS := (SD_put (n := 24) (i := 23) (by decide) _ _ (by first | kernel_rfl | simp)).2 hS
  try simp only [Act.put, List.setIfInBounds_toArray, List.set_cons_zero, List.set_cons_succ]
  try simp only [List.setIfInBounds_toArray, List.set_cons_zero, List.set_cons_succ] at hS
  refine wpAnyG_done (by kernel_rfl) ?_ _
  clear hS hC
  go_wp2
  go_ret2
  exact ⟨rfl, more_of_below (HBW.out.trans (by have hws := HBW.out.size; exact (by repeat' (first | (with_reducible exact Below.refl _ _) | (with_reducible assumption) | (with_reducible refine below_more ?_ ?_ _) | (with_reducible refine below_drewN ?_ _) | (with_reducible refine Below.drew ?_) | (with_reducible refine Below.alloc ?_ ?_ _) | (with_reducible refine Below.setCell ?_ ?_ _) | go_size | (simp [more_size]; done) | (simp [more_size]; omega)))))⟩
set_option maxRecDepth 100000 in
set_option maxHeartbeats 3200000 in
theorem rline0ft_any (z : Int)  (a b c : Int) (i : Nat) (w : World) (NM : ByteArray) (hNM : NM.size ≤ 10) (hi : i < 12) (hT : (As.scs As.ops)[i]? = some (.string NM)) (Ra : ByteArray) (ha : Ra.size ≤ 12) (Ha : Hid (∀ w, Calls Tryd.prog 11 #[.int .i64 a] w fun e w2 => e = .returned (.string Ra) ∧ ∃ g, w2 = more w g)) (Rb : ByteArray) (hb : Rb.size ≤ 12) (Hb : Hid (∀ w, Calls Tryd.prog 11 #[.int .i64 b] w fun e w2 => e = .returned (.string Rb) ∧ ∃ g, w2 = more w g)) (Rc : ByteArray) (hc : Rc.size ≤ 12) (Hc : Hid (∀ w, Calls Tryd.prog 11 #[.int .i64 c] w fun e w2 => e = .returned (.string Rc) ∧ ∃ g, w2 = more w g)) 
    (HD : Hid (∀ w, Calls Tryd.prog 9 #[.int .u32 z] w fun e w' => e = .returned (.tuple #[.agg #[.int .i64 0, .bool false, .bool true, .int .i64 a, .int .i64 b, .int .i64 c, .int .i64 (i : Int), .int .i64 0], .int .i64 0]) ∧ ∃ g, w' = more w g)) :
    Calls Tryd.prog 5 #[.int .u32 z] w fun e w' => e = .returned (.tuple #[.string (NM ++ ⟨#[34]⟩ ++ ⟨#[32]⟩ ++ Ra ++ ⟨#[44, 32]⟩ ++ Rb ++ ⟨#[44, 32]⟩ ++ Rc), .int .i64 0]) ∧ ∃ g, w' = more w g := by
  go_enter Tryd.func5, Tryd.ntmps5
  go_wp2_with (go_at_call 9; (with_reducible refine (HD.out _).mono ?_); rintro e w2 ⟨rfl, g, rfl⟩)
  obtain ⟨bx, hbx⟩ : ∃ bx, bx = w.heap.size + g.o.size := ⟨_, rfl⟩
  have hc : ∀ (j : Nat) (xv : Value), (#[Value.int .i64 0, .bool false, .bool true, .int .i64 a, .int .i64 b, .int .i64 c, .int .i64 (i : Int), .int .i64 0] : Array Value)[j]? = some xv → ((more w g).alloc (.cells #[.int .i64 0, .bool false, .bool true, .int .i64 a, .int .i64 b, .int .i64 c, .int .i64 (i : Int), .int .i64 0] 33)).cell? ⟨bx, j, none⟩ = some xv := fun j xv h => by
    rw [hbx]
    have := (MapKept.heap_alloc (more w g) (.cells #[.int .i64 0, .bool false, .bool true, .int .i64 a, .int .i64 b, .int .i64 c, .int .i64 (i : Int), .int .i64 0] 33 (0, 0))).1
    rw [more_size] at this
    rw [cell_of_row _ _ _ _ _ _ this]; exact h
  have y0 := hc 0 _ rfl
  have y1 := hc 1 _ rfl
  have y2 := hc 2 _ rfl
  have y3 := hc 3 _ rfl
  have y4 := hc 4 _ rfl
  have y5 := hc 5 _ rfl
  have y6 := hc 6 _ rfl
  have y7 := hc 7 _ rfl
  rw [← hbx]
  have ybx : bx < ((more w g).alloc (.cells #[.int .i64 0, .bool false, .bool true, .int .i64 a, .int .i64 b, .int .i64 c, .int .i64 (i : Int), .int .i64 0] 33)).heap.size := by rw [As.sz3, more_size]; omega
  clear hc hbx
  have HBW : Below w.heap.size w ((more w g).alloc (.cells #[.int .i64 0, .bool false, .bool true, .int .i64 a, .int .i64 b, .int .i64 c, .int .i64 (i : Int), .int .i64 0] 33)) := (by repeat' (first | (with_reducible exact Below.refl _ _) | (with_reducible assumption) | (with_reducible refine below_more ?_ ?_ _) | (with_reducible refine below_drewN ?_ _) | (with_reducible refine Below.drew ?_) | (with_reducible refine Below.alloc ?_ ?_ _) | (with_reducible refine Below.setCell ?_ ?_ _) | go_size | (simp [more_size]; done) | (simp [more_size]; omega)))
  generalize ((more w g).alloc (.cells #[.int .i64 0, .bool false, .bool true, .int .i64 a, .int .i64 b, .int .i64 c, .int .i64 (i : Int), .int .i64 0] 33)) = W at *
  replace HBW := Lib.hid HBW
  have hi0 : (0 : Int) ≤ (i : Int) := by omega
  have hi1 : (i : Int) < 12 := by omega
  go_wp2_with fail
  have HW0 := Lib.hid (show (fun X => X.cell? ⟨bx, 3, none⟩ = some (.int .i64 a) ∧ X.cell? ⟨bx, 4, none⟩ = some (.int .i64 b) ∧ X.cell? ⟨bx, 5, none⟩ = some (.int .i64 c) ∧ X.cell? ⟨bx, 6, none⟩ = some (.int .i64 (i : Int))) W.drew ∧ True from ⟨by simp [go_sem, *], trivial⟩)
  refine wp_region_G (SD 0 (fun X => X.cell? ⟨bx, 3, none⟩ = some (.int .i64 a) ∧ X.cell? ⟨bx, 4, none⟩ = some (.int .i64 b) ∧ X.cell? ⟨bx, 5, none⟩ = some (.int .i64 c) ∧ X.cell? ⟨bx, 6, none⟩ = some (.int .i64 (i : Int))) (fun X => X.cell? ⟨W.heap.size, i, none⟩ = some (.string NM))) 24 (by kernel_rfl) (by kernel_rfl) ⟨HW0.out.1, fun h => absurd h (by decide)⟩ (fun hC hS => ?_)
  clear HW0
  refine wpAnyD_take (n := 24) (i := 1) (v := ?v1) rfl (by kernel_rfl) (by kernel_rfl) (by kernel_rfl) (by kernel_rfl) (SD_put (by decide)) (fun _ _ _ h => h) (closed_all (by kernel_rfl)) (Or.inl ⟨by rfl, ?y1⟩) hS ?r1
  case y1 =>
    intro X hX
    clear hX
    go_simp
    try with_reducible rfl
    try (rw [if_neg (by first | omega | (simp [ByteArray.size_append, ByteArray.size]; omega) | (simp only [ByteArray.size_append]; omega))])
  replace hS := (SD_put (n := 24) (i := 1) (by decide) _ _ (by first | kernel_rfl | simp)).2 hS
  try simp only [Act.put, List.setIfInBounds_toArray, List.set_cons_zero, List.set_cons_succ]
  try simp only [List.setIfInBounds_toArray, List.set_cons_zero, List.set_cons_succ] at hS
  refine wpAnyD_take (n := 24) (i := 2) (v := ?v2) rfl (by kernel_rfl) (by kernel_rfl) (by kernel_rfl) (by kernel_rfl) (SD_put (by decide)) (fun _ _ _ h => h) (closed_all (by kernel_rfl)) (Or.inl ⟨by rfl, ?y2⟩) hS ?r2
  case y2 =>
    intro X hX
    have xb := starD_base hX
    clear hX
    go_simp
    try with_reducible rfl
    try (rw [if_neg (by first | omega | (simp [ByteArray.size_append, ByteArray.size]; omega) | (simp only [ByteArray.size_append]; omega))])
  replace hS := (SD_put (n := 24) (i := 2) (by decide) _ _ (by first | kernel_rfl | simp)).2 hS
  try simp only [Act.put, List.setIfInBounds_toArray, List.set_cons_zero, List.set_cons_succ]
  try simp only [List.setIfInBounds_toArray, List.set_cons_zero, List.set_cons_succ] at hS
  refine wpAnyD_take (n := 24) (i := 5) (v := ?v5) rfl (by kernel_rfl) (by kernel_rfl) (by kernel_rfl) (by kernel_rfl) (SD_put (by decide)) (fun _ _ _ h => h) (closed_all (by kernel_rfl)) (Or.inl ⟨by rfl, ?y5⟩) hS ?r5
  case y5 =>
    intro X hX
    clear hX
    go_simp
    try with_reducible rfl
    try (rw [if_neg (by first | omega | (simp [ByteArray.size_append, ByteArray.size]; omega) | (simp only [ByteArray.size_append]; omega))])
  replace hS := (SD_put (n := 24) (i := 5) (by decide) _ _ (by first | kernel_rfl | simp)).2 hS
  try simp only [Act.put, List.setIfInBounds_toArray, List.set_cons_zero, List.set_cons_succ]
  try simp only [List.setIfInBounds_toArray, List.set_cons_zero, List.set_cons_succ] at hS
  refine wpAnyD_take (n := 24) (i := 8) (v := ?v8) rfl (by kernel_rfl) (by kernel_rfl) (by kernel_rfl) (by kernel_rfl) (SD_put (by decide)) (fun _ _ _ h => h) (closed_all (by kernel_rfl)) (Or.inl ⟨by rfl, ?y8⟩) hS ?r8
  case y8 =>
    intro X hX
    clear hX
    go_simp
    try with_reducible rfl
    try (rw [if_neg (by first | omega | (simp [ByteArray.size_append, ByteArray.size]; omega) | (simp only [ByteArray.size_append]; omega))])
  replace hS := (SD_put (n := 24) (i := 8) (by decide) _ _ (by first | kernel_rfl | simp)).2 hS
  try simp only [Act.put, List.setIfInBounds_toArray, List.set_cons_zero, List.set_cons_succ]
  try simp only [List.setIfInBounds_toArray, List.set_cons_zero, List.set_cons_succ] at hS
  refine wpAnyD_take (n := 24) (i := 9) (v := ?v9) rfl (by kernel_rfl) (by kernel_rfl) (by kernel_rfl) (by kernel_rfl) (SD_put (by decide)) (fun _ _ _ h => h) (closed_all (by kernel_rfl)) (Or.inl ⟨by rfl, ?y9⟩) hS ?r9
  case y9 =>
    intro X hX
    have xb := starD_base hX
    clear hX
    go_simp
    try with_reducible rfl
    try (rw [if_neg (by first | omega | (simp [ByteArray.size_append, ByteArray.size]; omega) | (simp only [ByteArray.size_append]; omega))])
  replace hS := (SD_put (n := 24) (i := 9) (by decide) _ _ (by first | kernel_rfl | simp)).2 hS
  try simp only [Act.put, List.setIfInBounds_toArray, List.set_cons_zero, List.set_cons_succ]
  try simp only [List.setIfInBounds_toArray, List.set_cons_zero, List.set_cons_succ] at hS
  refine wpAnyD_take (n := 24) (i := 13) (v := ?v13) rfl (by kernel_rfl) (by kernel_rfl) (by kernel_rfl) (by kernel_rfl) (SD_put (by decide)) (fun _ _ _ h => h) (closed_all (by kernel_rfl)) (Or.inl ⟨by rfl, ?y13⟩) hS ?r13
  case y13 =>
    intro X hX
    clear hX
    go_simp
    try with_reducible rfl
    try (rw [if_neg (by first | omega | (simp [ByteArray.size_append, ByteArray.size]; omega) | (simp only [ByteArray.size_append]; omega))])
  replace hS := (SD_put (n := 24) (i := 13) (by decide) _ _ (by first | kernel_rfl | simp)).2 hS
  try simp only [Act.put, List.setIfInBounds_toArray, List.set_cons_zero, List.set_cons_succ]
  try simp only [List.setIfInBounds_toArray, List.set_cons_zero, List.set_cons_succ] at hS
  refine wpAnyD_take (n := 24) (i := 14) (v := ?v14) rfl (by kernel_rfl) (by kernel_rfl) (by kernel_rfl) (by kernel_rfl) (SD_put (by decide)) (fun _ _ _ h => h) (closed_all (by kernel_rfl)) (Or.inl ⟨by rfl, ?y14⟩) hS ?r14
  case y14 =>
    intro X hX
    have xb := starD_base hX
    clear hX
    go_simp
    try with_reducible rfl
    try (rw [if_neg (by first | omega | (simp [ByteArray.size_append, ByteArray.size]; omega) | (simp only [ByteArray.size_append]; omega))])
  replace hS := (SD_put (n := 24) (i := 14) (by decide) _ _ (by first | kernel_rfl | simp)).2 hS
  try simp only [Act.put, List.setIfInBounds_toArray, List.set_cons_zero, List.set_cons_succ]
  try simp only [List.setIfInBounds_toArray, List.set_cons_zero, List.set_cons_succ] at hS
  refine wpAnyD_take (n := 24) (i := 18) (v := ?v18) rfl (by kernel_rfl) (by kernel_rfl) (by kernel_rfl) (by kernel_rfl) (SD_put (by decide)) (fun _ _ _ h => h) (closed_all (by kernel_rfl)) (Or.inl ⟨by rfl, ?y18⟩) hS ?r18
  case y18 =>
    intro X hX
    clear hX
    go_simp
    try with_reducible rfl
    try (rw [if_neg (by first | omega | (simp [ByteArray.size_append, ByteArray.size]; omega) | (simp only [ByteArray.size_append]; omega))])
  replace hS := (SD_put (n := 24) (i := 18) (by decide) _ _ (by first | kernel_rfl | simp)).2 hS
  try simp only [Act.put, List.setIfInBounds_toArray, List.set_cons_zero, List.set_cons_succ]
  try simp only [List.setIfInBounds_toArray, List.set_cons_zero, List.set_cons_succ] at hS
  refine wpAnyD_take (n := 24) (i := 19) (v := ?v19) rfl (by kernel_rfl) (by kernel_rfl) (by kernel_rfl) (by kernel_rfl) (SD_put (by decide)) (fun _ _ _ h => h) (closed_all (by kernel_rfl)) (Or.inl ⟨by rfl, ?y19⟩) hS ?r19
  case y19 =>
    intro X hX
    have xb := starD_base hX
    clear hX
    go_simp
    try with_reducible rfl
    try (rw [if_neg (by first | omega | (simp [ByteArray.size_append, ByteArray.size]; omega) | (simp only [ByteArray.size_append]; omega))])
  replace hS := (SD_put (n := 24) (i := 19) (by decide) _ _ (by first | kernel_rfl | simp)).2 hS
  try simp only [Act.put, List.setIfInBounds_toArray, List.set_cons_zero, List.set_cons_succ]
  try simp only [List.setIfInBounds_toArray, List.set_cons_zero, List.set_cons_succ] at hS
  refine wpAnyG_ready (rs := [0]) (by kernel_rfl) (by simp) ?_
  refine AllReadyG.cons rfl (fun K hK => ?_) AllReadyG.nil
  go_simp
  refine (rops_any _).mono ?_; rintro e w2 ⟨rfl, rfl⟩
  go_simp
  refine hK.out _ _ ⟨by simp [go_sem, *], fun _ => by simp [go_sem, *]⟩ (fun hS' => ?_)
  clear hK K hS; have hS := hS'; clear hS'
  try simp only [Act.put, List.setIfInBounds_toArray, List.set_cons_zero, List.set_cons_succ]
  try simp only [List.setIfInBounds_toArray, List.set_cons_zero, List.set_cons_succ] at hS
  refine wpAnyD_take (n := 24) (i := 3) (v := ?v3) rfl (by kernel_rfl) (by kernel_rfl) (by kernel_rfl) (by kernel_rfl) (SD_put (by decide)) (fun _ _ _ h => h) (closed_all (by kernel_rfl)) (Or.inl ⟨by rfl, ?y3⟩) hS ?r3
  case y3 =>
    intro X hX
    clear hX
    go_simp
    try with_reducible rfl
    try (rw [if_neg (by first | omega | (simp [ByteArray.size_append, ByteArray.size]; omega) | (simp only [ByteArray.size_append]; omega))])
  replace hS := (SD_put (n := 24) (i := 3) (by decide) _ _ (by first | kernel_rfl | simp)).2 hS
  try simp only [Act.put, List.setIfInBounds_toArray, List.set_cons_zero, List.set_cons_succ]
  try simp only [List.setIfInBounds_toArray, List.set_cons_zero, List.set_cons_succ] at hS
  refine wpAnyD_take (n := 24) (i := 4) (v := ?v4) rfl (by kernel_rfl) (by kernel_rfl) (by kernel_rfl) (by kernel_rfl) (SD_put (by decide)) (fun _ _ _ h => h) (closed_all (by kernel_rfl)) (Or.inl ⟨by rfl, ?y4⟩) hS ?r4
  case y4 =>
    intro X hX
    have xc := starD_late hX (m := 3) (by kernel_rfl) (.inr (by kernel_rfl))
    clear hX
    go_simp
    try with_reducible rfl
    try (rw [if_neg (by first | omega | (simp [ByteArray.size_append, ByteArray.size]; omega) | (simp only [ByteArray.size_append]; omega))])
  replace hS := (SD_put (n := 24) (i := 4) (by decide) _ _ (by first | kernel_rfl | simp)).2 hS
  try simp only [Act.put, List.setIfInBounds_toArray, List.set_cons_zero, List.set_cons_succ]
  try simp only [List.setIfInBounds_toArray, List.set_cons_zero, List.set_cons_succ] at hS
  refine wpAnyD_take (n := 24) (i := 6) (v := ?v6) rfl (by kernel_rfl) (by kernel_rfl) (by kernel_rfl) (by kernel_rfl) (SD_put (by decide)) (fun _ _ _ h => h) (closed_all (by kernel_rfl)) (Or.inl ⟨by rfl, ?y6⟩) hS ?r6
  case y6 =>
    intro X hX
    clear hX
    go_simp
    try with_reducible rfl
    try (rw [if_neg (by first | omega | (simp [ByteArray.size_append, ByteArray.size]; omega) | (simp only [ByteArray.size_append]; omega))])
  replace hS := (SD_put (n := 24) (i := 6) (by decide) _ _ (by first | kernel_rfl | simp)).2 hS
  try simp only [Act.put, List.setIfInBounds_toArray, List.set_cons_zero, List.set_cons_succ]
  try simp only [List.setIfInBounds_toArray, List.set_cons_zero, List.set_cons_succ] at hS
  refine wpAnyD_take (n := 24) (i := 7) (v := ?v7) rfl (by kernel_rfl) (by kernel_rfl) (by kernel_rfl) (by kernel_rfl) (SD_put (by decide)) (fun _ _ _ h => h) (closed_all (by kernel_rfl)) (Or.inl ⟨by rfl, ?y7⟩) hS ?r7
  case y7 =>
    intro X hX
    clear hX
    go_simp
    try with_reducible rfl
    try (rw [if_neg (by first | omega | (simp [ByteArray.size_append, ByteArray.size]; omega) | (simp only [ByteArray.size_append]; omega))])
  replace hS := (SD_put (n := 24) (i := 7) (by decide) _ _ (by first | kernel_rfl | simp)).2 hS
  try simp only [Act.put, List.setIfInBounds_toArray, List.set_cons_zero, List.set_cons_succ]
  try simp only [List.setIfInBounds_toArray, List.set_cons_zero, List.set_cons_succ] at hS
  refine wpAnyG_ready (rs := [10]) (by kernel_rfl) (by simp) ?_
  refine AllReadyG.cons rfl (fun K hK => ?_) AllReadyG.nil
  go_simp
  refine (Ha.out _).mono ?_; rintro e w2 ⟨rfl, g1, rfl⟩
  go_simp
  refine hK.out _ _ ⟨by simp [go_sem, *], fun _ => by simp [go_sem, *]⟩ (fun hS' => ?_)
  clear hK K hS; have hS := hS'; clear hS'
  try simp only [Act.put, List.setIfInBounds_toArray, List.set_cons_zero, List.set_cons_succ]
  try simp only [List.setIfInBounds_toArray, List.set_cons_zero, List.set_cons_succ] at hS
  refine wpAnyD_take (n := 24) (i := 11) (v := ?v11) rfl (by kernel_rfl) (by kernel_rfl) (by kernel_rfl) (by kernel_rfl) (SD_put (by decide)) (fun _ _ _ h => h) (closed_all (by kernel_rfl)) (Or.inl ⟨by rfl, ?y11⟩) hS ?r11
  case y11 =>
    intro X hX
    clear hX
    go_simp
    try with_reducible rfl
    try (rw [if_neg (by first | omega | (simp [ByteArray.size_append, ByteArray.size]; omega) | (simp only [ByteArray.size_append]; omega))])
  replace hS := (SD_put (n := 24) (i := 11) (by decide) _ _ (by first | kernel_rfl | simp)).2 hS
  try simp only [Act.put, List.setIfInBounds_toArray, List.set_cons_zero, List.set_cons_succ]
  try simp only [List.setIfInBounds_toArray, List.set_cons_zero, List.set_cons_succ] at hS
  refine wpAnyD_take (n := 24) (i := 12) (v := ?v12) rfl (by kernel_rfl) (by kernel_rfl) (by kernel_rfl) (by kernel_rfl) (SD_put (by decide)) (fun _ _ _ h => h) (closed_all (by kernel_rfl)) (Or.inl ⟨by rfl, ?y12⟩) hS ?r12
  case y12 =>
    intro X hX
    clear hX
    go_simp
    try with_reducible rfl
    try (rw [if_neg (by first | omega | (simp [ByteArray.size_append, ByteArray.size]; omega) | (simp only [ByteArray.size_append]; omega))])
  replace hS := (SD_put (n := 24) (i := 12) (by decide) _ _ (by first | kernel_rfl | simp)).2 hS
  try simp only [Act.put, List.setIfInBounds_toArray, List.set_cons_zero, List.set_cons_succ]
  try simp only [List.setIfInBounds_toArray, List.set_cons_zero, List.set_cons_succ] at hS
  refine wpAnyG_ready (rs := [15]) (by kernel_rfl) (by simp) ?_
  refine AllReadyG.cons rfl (fun K hK => ?_) AllReadyG.nil
  go_simp
  refine (Hb.out _).mono ?_; rintro e w2 ⟨rfl, g2, rfl⟩
  go_simp
  refine hK.out _ _ ⟨by simp [go_sem, *], fun _ => by simp [go_sem, *]⟩ (fun hS' => ?_)
  clear hK K hS; have hS := hS'; clear hS'
  try simp only [Act.put, List.setIfInBounds_toArray, List.set_cons_zero, List.set_cons_succ]
  try simp only [List.setIfInBounds_toArray, List.set_cons_zero, List.set_cons_succ] at hS
  refine wpAnyD_take (n := 24) (i := 16) (v := ?v16) rfl (by kernel_rfl) (by kernel_rfl) (by kernel_rfl) (by kernel_rfl) (SD_put (by decide)) (fun _ _ _ h => h) (closed_all (by kernel_rfl)) (Or.inl ⟨by rfl, ?y16⟩) hS ?r16
  case y16 =>
    intro X hX
    clear hX
    go_simp
    try with_reducible rfl
    try (rw [if_neg (by first | omega | (simp [ByteArray.size_append, ByteArray.size]; omega) | (simp only [ByteArray.size_append]; omega))])
  replace hS := (SD_put (n := 24) (i := 16) (by decide) _ _ (by first | kernel_rfl | simp)).2 hS
  try simp only [Act.put, List.setIfInBounds_toArray, List.set_cons_zero, List.set_cons_succ]
  try simp only [List.setIfInBounds_toArray, List.set_cons_zero, List.set_cons_succ] at hS
  refine wpAnyD_take (n := 24) (i := 17) (v := ?v17) rfl (by kernel_rfl) (by kernel_rfl) (by kernel_rfl) (by kernel_rfl) (SD_put (by decide)) (fun _ _ _ h => h) (closed_all (by kernel_rfl)) (Or.inl ⟨by rfl, ?y17⟩) hS ?r17
  case y17 =>
    intro X hX
    clear hX
    go_simp
    try with_reducible rfl
    try (rw [if_neg (by first | omega | (simp [ByteArray.size_append, ByteArray.size]; omega) | (simp only [ByteArray.size_append]; omega))])
  replace hS := (SD_put (n := 24) (i := 17) (by decide) _ _ (by first | kernel_rfl | simp)).2 hS
  try simp only [Act.put, List.setIfInBounds_toArray, List.set_cons_zero, List.set_cons_succ]
  try simp only [List.setIfInBounds_toArray, List.set_cons_zero, List.set_cons_succ] at hS
  refine wpAnyG_ready (rs := [20]) (by kernel_rfl) (by simp) ?_
  refine AllReadyG.cons rfl (fun K hK => ?_) AllReadyG.nil
  go_simp
  refine (Hc.out _).mono ?_; rintro e w2 ⟨rfl, g3, rfl⟩
  go_simp
  refine hK.out _ _ ⟨by simp [go_sem, *], fun _ => by simp [go_sem, *]⟩ (fun hS' => ?_)
  clear hK K hS; have hS := hS'; clear hS'
  try simp only [Act.put, List.setIfInBounds_toArray, List.set_cons_zero, List.set_cons_succ]
  try simp only [List.setIfInBounds_toArray, List.set_cons_zero, List.set_cons_succ] at hS
  refine wpAnyD_take (n := 24) (i := 21) (v := ?v21) rfl (by kernel_rfl) (by kernel_rfl) (by kernel_rfl) (by kernel_rfl) (SD_put (by decide)) (fun _ _ _ h => h) (closed_all (by kernel_rfl)) (Or.inl ⟨by rfl, ?y21⟩) hS ?r21
  case y21 =>
    intro X hX
    clear hX
    go_simp
    try with_reducible rfl
    try (rw [if_neg (by first | omega | (simp [ByteArray.size_append, ByteArray.size]; omega) | (simp only [ByteArray.size_append]; omega))])
  replace hS := (SD_put (n := 24) (i := 21) (by decide) _ _ (by first | kernel_rfl | simp)).2 hS
  try simp only [Act.put, List.setIfInBounds_toArray, List.set_cons_zero, List.set_cons_succ]
  try simp only [List.setIfInBounds_toArray, List.set_cons_zero, List.set_cons_succ] at hS
  refine wpAnyD_take (n := 24) (i := 22) (v := ?v22) rfl (by kernel_rfl) (by kernel_rfl) (by kernel_rfl) (by kernel_rfl) (SD_put (by decide)) (fun _ _ _ h => h) (closed_all (by kernel_rfl)) (Or.inl ⟨by rfl, ?y22⟩) hS ?r22
  case y22 =>
    intro X hX
    clear hX
    go_simp
    try with_reducible rfl
    try (rw [if_neg (by first | omega | (simp [ByteArray.size_append, ByteArray.size]; omega) | (simp only [ByteArray.size_append]; omega))])
  replace hS := (SD_put (n := 24) (i := 22) (by decide) _ _ (by first | kernel_rfl | simp)).2 hS
  try simp only [Act.put, List.setIfInBounds_toArray, List.set_cons_zero, List.set_cons_succ]
  try simp only [List.setIfInBounds_toArray, List.set_cons_zero, List.set_cons_succ] at hS
  refine wpAnyD_take (n := 24) (i := 23) (v := ?v23) rfl (by kernel_rfl) (by kernel_rfl) (by kernel_rfl) (by kernel_rfl) (SD_put (by decide)) (fun _ _ _ h => h) (closed_all (by kernel_rfl)) (Or.inl ⟨by rfl, ?y23⟩) hS ?r23
  case y23 =>
    intro X hX
    clear hX
    go_simp
    try with_reducible rfl
    try (rw [if_neg (by first | omega | (simp [ByteArray.size_append, ByteArray.size]; omega) | (simp only [ByteArray.size_append]; omega))])
  replace hS := (SD_put (n := 24) (i := 23) (by decide) _ _ (by first | kernel_rfl | simp)).2 hS
  try simp only [Act.put, List.setIfInBounds_toArray, List.set_cons_zero, List.set_cons_succ]
  try simp only [List.setIfInBounds_toArray, List.set_cons_zero, List.set_cons_succ] at hS
  refine wpAnyG_done (by kernel_rfl) ?_ _
  clear hS hC
  go_wp2
  go_ret2
  exact ⟨rfl, more_of_below (HBW.out.trans (by have hws := HBW.out.size; exact (by repeat' (first | (with_reducible exact Below.refl _ _) | (with_reducible assumption) | (with_reducible refine below_more ?_ ?_ _) | (with_reducible refine below_drewN ?_ _) | (with_reducible refine Below.drew ?_) | (with_reducible refine Below.alloc ?_ ?_ _) | (with_reducible refine Below.setCell ?_ ?_ _) | go_size | (simp [more_size]; done) | (simp [more_size]; omega)))))⟩
set_option maxRecDepth 100000 in
set_option maxHeartbeats 3200000 in
theorem rline0tt_any (z : Int)  (a b c : Int) (i : Nat) (w : World) (NM : ByteArray) (hNM : NM.size ≤ 10) (hi : i < 12) (hT : (As.scs As.ops)[i]? = some (.string NM)) (Ra : ByteArray) (ha : Ra.size ≤ 12) (Ha : Hid (∀ w, Calls Tryd.prog 11 #[.int .i64 a] w fun e w2 => e = .returned (.string Ra) ∧ ∃ g, w2 = more w g)) (Rb : ByteArray) (hb : Rb.size ≤ 12) (Hb : Hid (∀ w, Calls Tryd.prog 11 #[.int .i64 b] w fun e w2 => e = .returned (.string Rb) ∧ ∃ g, w2 = more w g)) (Rc : ByteArray) (hc : Rc.size ≤ 12) (Hc : Hid (∀ w, Calls Tryd.prog 11 #[.int .i64 c] w fun e w2 => e = .returned (.string Rc) ∧ ∃ g, w2 = more w g)) 
    (HD : Hid (∀ w, Calls Tryd.prog 9 #[.int .u32 z] w fun e w' => e = .returned (.tuple #[.agg #[.int .i64 0, .bool true, .bool true, .int .i64 a, .int .i64 b, .int .i64 c, .int .i64 (i : Int), .int .i64 0], .int .i64 0]) ∧ ∃ g, w' = more w g)) :
    Calls Tryd.prog 5 #[.int .u32 z] w fun e w' => e = .returned (.tuple #[.string (NM ++ (⟨#[39]⟩ ++ ⟨#[34]⟩) ++ ⟨#[32]⟩ ++ Ra ++ ⟨#[44, 32]⟩ ++ Rb ++ ⟨#[44, 32]⟩ ++ Rc), .int .i64 0]) ∧ ∃ g, w' = more w g := by
  go_enter Tryd.func5, Tryd.ntmps5
  go_wp2_with (go_at_call 9; (with_reducible refine (HD.out _).mono ?_); rintro e w2 ⟨rfl, g, rfl⟩)
  obtain ⟨bx, hbx⟩ : ∃ bx, bx = w.heap.size + g.o.size := ⟨_, rfl⟩
  have hc : ∀ (j : Nat) (xv : Value), (#[Value.int .i64 0, .bool true, .bool true, .int .i64 a, .int .i64 b, .int .i64 c, .int .i64 (i : Int), .int .i64 0] : Array Value)[j]? = some xv → ((more w g).alloc (.cells #[.int .i64 0, .bool true, .bool true, .int .i64 a, .int .i64 b, .int .i64 c, .int .i64 (i : Int), .int .i64 0] 33)).cell? ⟨bx, j, none⟩ = some xv := fun j xv h => by
    rw [hbx]
    have := (MapKept.heap_alloc (more w g) (.cells #[.int .i64 0, .bool true, .bool true, .int .i64 a, .int .i64 b, .int .i64 c, .int .i64 (i : Int), .int .i64 0] 33 (0, 0))).1
    rw [more_size] at this
    rw [cell_of_row _ _ _ _ _ _ this]; exact h
  have y0 := hc 0 _ rfl
  have y1 := hc 1 _ rfl
  have y2 := hc 2 _ rfl
  have y3 := hc 3 _ rfl
  have y4 := hc 4 _ rfl
  have y5 := hc 5 _ rfl
  have y6 := hc 6 _ rfl
  have y7 := hc 7 _ rfl
  rw [← hbx]
  have ybx : bx < ((more w g).alloc (.cells #[.int .i64 0, .bool true, .bool true, .int .i64 a, .int .i64 b, .int .i64 c, .int .i64 (i : Int), .int .i64 0] 33)).heap.size := by rw [As.sz3, more_size]; omega
  clear hc hbx
  have HBW : Below w.heap.size w ((more w g).alloc (.cells #[.int .i64 0, .bool true, .bool true, .int .i64 a, .int .i64 b, .int .i64 c, .int .i64 (i : Int), .int .i64 0] 33)) := (by repeat' (first | (with_reducible exact Below.refl _ _) | (with_reducible assumption) | (with_reducible refine below_more ?_ ?_ _) | (with_reducible refine below_drewN ?_ _) | (with_reducible refine Below.drew ?_) | (with_reducible refine Below.alloc ?_ ?_ _) | (with_reducible refine Below.setCell ?_ ?_ _) | go_size | (simp [more_size]; done) | (simp [more_size]; omega)))
  generalize ((more w g).alloc (.cells #[.int .i64 0, .bool true, .bool true, .int .i64 a, .int .i64 b, .int .i64 c, .int .i64 (i : Int), .int .i64 0] 33)) = W at *
  replace HBW := Lib.hid HBW
  have hi0 : (0 : Int) ≤ (i : Int) := by omega
  have hi1 : (i : Int) < 12 := by omega
  go_wp2_with fail
  have HW0 := Lib.hid (show (fun X => X.cell? ⟨bx, 3, none⟩ = some (.int .i64 a) ∧ X.cell? ⟨bx, 4, none⟩ = some (.int .i64 b) ∧ X.cell? ⟨bx, 5, none⟩ = some (.int .i64 c) ∧ X.cell? ⟨bx, 6, none⟩ = some (.int .i64 (i : Int))) W.drew ∧ True from ⟨by simp [go_sem, *], trivial⟩)
  refine wp_region_G (SD 0 (fun X => X.cell? ⟨bx, 3, none⟩ = some (.int .i64 a) ∧ X.cell? ⟨bx, 4, none⟩ = some (.int .i64 b) ∧ X.cell? ⟨bx, 5, none⟩ = some (.int .i64 c) ∧ X.cell? ⟨bx, 6, none⟩ = some (.int .i64 (i : Int))) (fun X => X.cell? ⟨W.heap.size, i, none⟩ = some (.string NM))) 24 (by kernel_rfl) (by kernel_rfl) ⟨HW0.out.1, fun h => absurd h (by decide)⟩ (fun hC hS => ?_)
  clear HW0
  refine wpAnyD_take (n := 24) (i := 1) (v := ?v1) rfl (by kernel_rfl) (by kernel_rfl) (by kernel_rfl) (by kernel_rfl) (SD_put (by decide)) (fun _ _ _ h => h) (closed_all (by kernel_rfl)) (Or.inl ⟨by rfl, ?y1⟩) hS ?r1
  case y1 =>
    intro X hX
    clear hX
    go_simp
    try with_reducible rfl
    try (rw [if_neg (by first | omega | (simp [ByteArray.size_append, ByteArray.size]; omega) | (simp only [ByteArray.size_append]; omega))])
  replace hS := (SD_put (n := 24) (i := 1) (by decide) _ _ (by first | kernel_rfl | simp)).2 hS
  try simp only [Act.put, List.setIfInBounds_toArray, List.set_cons_zero, List.set_cons_succ]
  try simp only [List.setIfInBounds_toArray, List.set_cons_zero, List.set_cons_succ] at hS
  refine wpAnyD_take (n := 24) (i := 2) (v := ?v2) rfl (by kernel_rfl) (by kernel_rfl) (by kernel_rfl) (by kernel_rfl) (SD_put (by decide)) (fun _ _ _ h => h) (closed_all (by kernel_rfl)) (Or.inl ⟨by rfl, ?y2⟩) hS ?r2
  case y2 =>
    intro X hX
    have xb := starD_base hX
    clear hX
    go_simp
    try with_reducible rfl
    try (rw [if_neg (by first | omega | (simp [ByteArray.size_append, ByteArray.size]; omega) | (simp only [ByteArray.size_append]; omega))])
  replace hS := (SD_put (n := 24) (i := 2) (by decide) _ _ (by first | kernel_rfl | simp)).2 hS
  try simp only [Act.put, List.setIfInBounds_toArray, List.set_cons_zero, List.set_cons_succ]
  try simp only [List.setIfInBounds_toArray, List.set_cons_zero, List.set_cons_succ] at hS
  refine wpAnyD_take (n := 24) (i := 5) (v := ?v5) rfl (by kernel_rfl) (by kernel_rfl) (by kernel_rfl) (by kernel_rfl) (SD_put (by decide)) (fun _ _ _ h => h) (closed_all (by kernel_rfl)) (Or.inl ⟨by rfl, ?y5⟩) hS ?r5
  case y5 =>
    intro X hX
    clear hX
    go_simp
    try with_reducible rfl
    try (rw [if_neg (by first | omega | (simp [ByteArray.size_append, ByteArray.size]; omega) | (simp only [ByteArray.size_append]; omega))])
  replace hS := (SD_put (n := 24) (i := 5) (by decide) _ _ (by first | kernel_rfl | simp)).2 hS
  try simp only [Act.put, List.setIfInBounds_toArray, List.set_cons_zero, List.set_cons_succ]
  try simp only [List.setIfInBounds_toArray, List.set_cons_zero, List.set_cons_succ] at hS
  refine wpAnyD_take (n := 24) (i := 8) (v := ?v8) rfl (by kernel_rfl) (by kernel_rfl) (by kernel_rfl) (by kernel_rfl) (SD_put (by decide)) (fun _ _ _ h => h) (closed_all (by kernel_rfl)) (Or.inl ⟨by rfl, ?y8⟩) hS ?r8
  case y8 =>
    intro X hX
    clear hX
    go_simp
    try with_reducible rfl
    try (rw [if_neg (by first | omega | (simp [ByteArray.size_append, ByteArray.size]; omega) | (simp only [ByteArray.size_append]; omega))])
  replace hS := (SD_put (n := 24) (i := 8) (by decide) _ _ (by first | kernel_rfl | simp)).2 hS
  try simp only [Act.put, List.setIfInBounds_toArray, List.set_cons_zero, List.set_cons_succ]
  try simp only [List.setIfInBounds_toArray, List.set_cons_zero, List.set_cons_succ] at hS
  refine wpAnyD_take (n := 24) (i := 9) (v := ?v9) rfl (by kernel_rfl) (by kernel_rfl) (by kernel_rfl) (by kernel_rfl) (SD_put (by decide)) (fun _ _ _ h => h) (closed_all (by kernel_rfl)) (Or.inl ⟨by rfl, ?y9⟩) hS ?r9
  case y9 =>
    intro X hX
    have xb := starD_base hX
    clear hX
    go_simp
    try with_reducible rfl
    try (rw [if_neg (by first | omega | (simp [ByteArray.size_append, ByteArray.size]; omega) | (simp only [ByteArray.size_append]; omega))])
  replace hS := (SD_put (n := 24) (i := 9) (by decide) _ _ (by first | kernel_rfl | simp)).2 hS
  try simp only [Act.put, List.setIfInBounds_toArray, List.set_cons_zero, List.set_cons_succ]
  try simp only [List.setIfInBounds_toArray, List.set_cons_zero, List.set_cons_succ] at hS
  refine wpAnyD_take (n := 24) (i := 13) (v := ?v13) rfl (by kernel_rfl) (by kernel_rfl) (by kernel_rfl) (by kernel_rfl) (SD_put (by decide)) (fun _ _ _ h => h) (closed_all (by kernel_rfl)) (Or.inl ⟨by rfl, ?y13⟩) hS ?r13
  case y13 =>
    intro X hX
    clear hX
    go_simp
    try with_reducible rfl
    try (rw [if_neg (by first | omega | (simp [ByteArray.size_append, ByteArray.size]; omega) | (simp only [ByteArray.size_append]; omega))])
  replace hS := (SD_put (n := 24) (i := 13) (by decide) _ _ (by first | kernel_rfl | simp)).2 hS
  try simp only [Act.put, List.setIfInBounds_toArray, List.set_cons_zero, List.set_cons_succ]
  try simp only [List.setIfInBounds_toArray, List.set_cons_zero, List.set_cons_succ] at hS
  refine wpAnyD_take (n := 24) (i := 14) (v := ?v14) rfl (by kernel_rfl) (by kernel_rfl) (by kernel_rfl) (by kernel_rfl) (SD_put (by decide)) (fun _ _ _ h => h) (closed_all (by kernel_rfl)) (Or.inl ⟨by rfl, ?y14⟩) hS ?r14
  case y14 =>
    intro X hX
    have xb := starD_base hX
    clear hX
    go_simp
    try with_reducible rfl
    try (rw [if_neg (by first | omega | (simp [ByteArray.size_append, ByteArray.size]; omega) | (simp only [ByteArray.size_append]; omega))])
  replace hS := (SD_put (n := 24) (i := 14) (by decide) _ _ (by first | kernel_rfl | simp)).2 hS
  try simp only [Act.put, List.setIfInBounds_toArray, List.set_cons_zero, List.set_cons_succ]
  try simp only [List.setIfInBounds_toArray, List.set_cons_zero, List.set_cons_succ] at hS
  refine wpAnyD_take (n := 24) (i := 18) (v := ?v18) rfl (by kernel_rfl) (by kernel_rfl) (by kernel_rfl) (by kernel_rfl) (SD_put (by decide)) (fun _ _ _ h => h) (closed_all (by kernel_rfl)) (Or.inl ⟨by rfl, ?y18⟩) hS ?r18
  case y18 =>
    intro X hX
    clear hX
    go_simp
    try with_reducible rfl
    try (rw [if_neg (by first | omega | (simp [ByteArray.size_append, ByteArray.size]; omega) | (simp only [ByteArray.size_append]; omega))])
  replace hS := (SD_put (n := 24) (i := 18) (by decide) _ _ (by first | kernel_rfl | simp)).2 hS
  try simp only [Act.put, List.setIfInBounds_toArray, List.set_cons_zero, List.set_cons_succ]
  try simp only [List.setIfInBounds_toArray, List.set_cons_zero, List.set_cons_succ] at hS
  refine wpAnyD_take (n := 24) (i := 19) (v := ?v19) rfl (by kernel_rfl) (by kernel_rfl) (by kernel_rfl) (by kernel_rfl) (SD_put (by decide)) (fun _ _ _ h => h) (closed_all (by kernel_rfl)) (Or.inl ⟨by rfl, ?y19⟩) hS ?r19
  case y19 =>
    intro X hX
    have xb := starD_base hX
    clear hX
    go_simp
    try with_reducible rfl
    try (rw [if_neg (by first | omega | (simp [ByteArray.size_append, ByteArray.size]; omega) | (simp only [ByteArray.size_append]; omega))])
  replace hS := (SD_put (n := 24) (i := 19) (by decide) _ _ (by first | kernel_rfl | simp)).2 hS
  try simp only [Act.put, List.setIfInBounds_toArray, List.set_cons_zero, List.set_cons_succ]
  try simp only [List.setIfInBounds_toArray, List.set_cons_zero, List.set_cons_succ] at hS
  refine wpAnyG_ready (rs := [0]) (by kernel_rfl) (by simp) ?_
  refine AllReadyG.cons rfl (fun K hK => ?_) AllReadyG.nil
  go_simp
  refine (rops_any _).mono ?_; rintro e w2 ⟨rfl, rfl⟩
  go_simp
  refine hK.out _ _ ⟨by simp [go_sem, *], fun _ => by simp [go_sem, *]⟩ (fun hS' => ?_)
  clear hK K hS; have hS := hS'; clear hS'
  try simp only [Act.put, List.setIfInBounds_toArray, List.set_cons_zero, List.set_cons_succ]
  try simp only [List.setIfInBounds_toArray, List.set_cons_zero, List.set_cons_succ] at hS
  refine wpAnyD_take (n := 24) (i := 3) (v := ?v3) rfl (by kernel_rfl) (by kernel_rfl) (by kernel_rfl) (by kernel_rfl) (SD_put (by decide)) (fun _ _ _ h => h) (closed_all (by kernel_rfl)) (Or.inl ⟨by rfl, ?y3⟩) hS ?r3
  case y3 =>
    intro X hX
    clear hX
    go_simp
    try with_reducible rfl
    try (rw [if_neg (by first | omega | (simp [ByteArray.size_append, ByteArray.size]; omega) | (simp only [ByteArray.size_append]; omega))])
  replace hS := (SD_put (n := 24) (i := 3) (by decide) _ _ (by first | kernel_rfl | simp)).2 hS
  try simp only [Act.put, List.setIfInBounds_toArray, List.set_cons_zero, List.set_cons_succ]
  try simp only [List.setIfInBounds_toArray, List.set_cons_zero, List.set_cons_succ] at hS
  refine wpAnyD_take (n := 24) (i := 4) (v := ?v4) rfl (by kernel_rfl) (by kernel_rfl) (by kernel_rfl) (by kernel_rfl) (SD_put (by decide)) (fun _ _ _ h => h) (closed_all (by kernel_rfl)) (Or.inl ⟨by rfl, ?y4⟩) hS ?r4
  case y4 =>
    intro X hX
    have xc := starD_late hX (m := 3) (by kernel_rfl) (.inr (by kernel_rfl))
    clear hX
    go_simp
    try with_reducible rfl
    try (rw [if_neg (by first | omega | (simp [ByteArray.size_append, ByteArray.size]; omega) | (simp only [ByteArray.size_append]; omega))])
  replace hS := (SD_put (n := 24) (i := 4) (by decide) _ _ (by first | kernel_rfl | simp)).2 hS
  try simp only [Act.put, List.setIfInBounds_toArray, List.set_cons_zero, List.set_cons_succ]
  try simp only [List.setIfInBounds_toArray, List.set_cons_zero, List.set_cons_succ] at hS
  refine wpAnyD_take (n := 24) (i := 6) (v := ?v6) rfl (by kernel_rfl) (by kernel_rfl) (by kernel_rfl) (by kernel_rfl) (SD_put (by decide)) (fun _ _ _ h => h) (closed_all (by kernel_rfl)) (Or.inl ⟨by rfl, ?y6⟩) hS ?r6
  case y6 =>
    intro X hX
    clear hX
    go_simp
    try with_reducible rfl
    try (rw [if_neg (by first | omega | (simp [ByteArray.size_append, ByteArray.size]; omega) | (simp only [ByteArray.size_append]; omega))])
  replace hS := (SD_put (n := 24) (i := 6) (by decide) _ _ (by first | kernel_rfl | simp)).2 hS
  try simp only [Act.put, List.setIfInBounds_toArray, List.set_cons_zero, List.set_cons_succ]
  try simp only [List.setIfInBounds_toArray, List.set_cons_zero, List.set_cons_succ] at hS
  refine wpAnyD_take (n := 24) (i := 7) (v := ?v7) rfl (by kernel_rfl) (by kernel_rfl) (by kernel_rfl) (by kernel_rfl) (SD_put (by decide)) (fun _ _ _ h => h) (closed_all (by kernel_rfl)) (Or.inl ⟨by rfl, ?y7⟩) hS ?r7
  case y7 =>
    intro X hX
    clear hX
    go_simp
    try with_reducible rfl
    try (rw [if_neg (by first | omega | (simp [ByteArray.size_append, ByteArray.size]; omega) | (simp only [ByteArray.size_append]; omega))])
  replace hS := (SD_put (n := 24) (i := 7) (by decide) _ _ (by first | kernel_rfl | simp)).2 hS
  try simp only [Act.put, List.setIfInBounds_toArray, List.set_cons_zero, List.set_cons_succ]
  try simp only [List.setIfInBounds_toArray, List.set_cons_zero, List.set_cons_succ] at hS
  refine wpAnyG_ready (rs := [10]) (by kernel_rfl) (by simp) ?_
  refine AllReadyG.cons rfl (fun K hK => ?_) AllReadyG.nil
  go_simp
  refine (Ha.out _).mono ?_; rintro e w2 ⟨rfl, g1, rfl⟩
  go_simp
  refine hK.out _ _ ⟨by simp [go_sem, *], fun _ => by simp [go_sem, *]⟩ (fun hS' => ?_)
  clear hK K hS; have hS := hS'; clear hS'
  try simp only [Act.put, List.setIfInBounds_toArray, List.set_cons_zero, List.set_cons_succ]
  try simp only [List.setIfInBounds_toArray, List.set_cons_zero, List.set_cons_succ] at hS
  refine wpAnyD_take (n := 24) (i := 11) (v := ?v11) rfl (by kernel_rfl) (by kernel_rfl) (by kernel_rfl) (by kernel_rfl) (SD_put (by decide)) (fun _ _ _ h => h) (closed_all (by kernel_rfl)) (Or.inl ⟨by rfl, ?y11⟩) hS ?r11
  case y11 =>
    intro X hX
    clear hX
    go_simp
    try with_reducible rfl
    try (rw [if_neg (by first | omega | (simp [ByteArray.size_append, ByteArray.size]; omega) | (simp only [ByteArray.size_append]; omega))])
  replace hS := (SD_put (n := 24) (i := 11) (by decide) _ _ (by first | kernel_rfl | simp)).2 hS
  try simp only [Act.put, List.setIfInBounds_toArray, List.set_cons_zero, List.set_cons_succ]
  try simp only [List.setIfInBounds_toArray, List.set_cons_zero, List.set_cons_succ] at hS
  refine wpAnyD_take (n := 24) (i := 12) (v := ?v12) rfl (by kernel_rfl) (by kernel_rfl) (by kernel_rfl) (by kernel_rfl) (SD_put (by decide)) (fun _ _ _ h => h) (closed_all (by kernel_rfl)) (Or.inl ⟨by rfl, ?y12⟩) hS ?r12
  case y12 =>
    intro X hX
    clear hX
    go_simp
    try with_reducible rfl
    try (rw [if_neg (by first | omega | (simp [ByteArray.size_append, ByteArray.size]; omega) | (simp only [ByteArray.size_append]; omega))])
  replace hS := (SD_put (n := 24) (i := 12) (by decide) _ _ (by first | kernel_rfl | simp)).2 hS
  try simp only [Act.put, List.setIfInBounds_toArray, List.set_cons_zero, List.set_cons_succ]
  try simp only [List.setIfInBounds_toArray, List.set_cons_zero, List.set_cons_succ] at hS
  refine wpAnyG_ready (rs := [15]) (by kernel_rfl) (by simp) ?_
  refine AllReadyG.cons rfl (fun K hK => ?_) AllReadyG.nil
  go_simp
  refine (Hb.out _).mono ?_; rintro e w2 ⟨rfl, g2, rfl⟩
  go_simp
  refine hK.out _ _ ⟨by simp [go_sem, *], fun _ => by simp [go_sem, *]⟩ (fun hS' => ?_)
  clear hK K hS; have hS := hS'; clear hS'
  try simp only [Act.put, List.setIfInBounds_toArray, List.set_cons_zero, List.set_cons_succ]
  try simp only [List.setIfInBounds_toArray, List.set_cons_zero, List.set_cons_succ] at hS
  refine wpAnyD_take (n := 24) (i := 16) (v := ?v16) rfl (by kernel_rfl) (by kernel_rfl) (by kernel_rfl) (by kernel_rfl) (SD_put (by decide)) (fun _ _ _ h => h) (closed_all (by kernel_rfl)) (Or.inl ⟨by rfl, ?y16⟩) hS ?r16
  case y16 =>
    intro X hX
    clear hX
    go_simp
    try with_reducible rfl
    try (rw [if_neg (by first | omega | (simp [ByteArray.size_append, ByteArray.size]; omega) | (simp only [ByteArray.size_append]; omega))])
  replace hS := (SD_put (n := 24) (i := 16) (by decide) _ _ (by first | kernel_rfl | simp)).2 hS
  try simp only [Act.put, List.setIfInBounds_toArray, List.set_cons_zero, List.set_cons_succ]
  try simp only [List.setIfInBounds_toArray, List.set_cons_zero, List.set_cons_succ] at hS
  refine wpAnyD_take (n := 24) (i := 17) (v := ?v17) rfl (by kernel_rfl) (by kernel_rfl) (by kernel_rfl) (by kernel_rfl) (SD_put (by decide)) (fun _ _ _ h => h) (closed_all (by kernel_rfl)) (Or.inl ⟨by rfl, ?y17⟩) hS ?r17
  case y17 =>
    intro X hX
    clear hX
    go_simp
    try with_reducible rfl
    try (rw [if_neg (by first | omega | (simp [ByteArray.size_append, ByteArray.size]; omega) | (simp only [ByteArray.size_append]; omega))])
  replace hS := (SD_put (n := 24) (i := 17) (by decide) _ _ (by first | kernel_rfl | simp)).2 hS
  try simp only [Act.put, List.setIfInBounds_toArray, List.set_cons_zero, List.set_cons_succ]
  try simp only [List.setIfInBounds_toArray, List.set_cons_zero, List.set_cons_succ] at hS
  refine wpAnyG_ready (rs := [20]) (by kernel_rfl) (by simp) ?_
  refine AllReadyG.cons rfl (fun K hK => ?_) AllReadyG.nil
  go_simp
  refine (Hc.out _).mono ?_; rintro e w2 ⟨rfl, g3, rfl⟩
  go_simp
  refine hK.out _ _ ⟨by simp [go_sem, *], fun _ => by simp [go_sem, *]⟩ (fun hS' => ?_)
  clear hK K hS; have hS := hS'; clear hS'
  try simp only [Act.put, List.setIfInBounds_toArray, List.set_cons_zero, List.set_cons_succ]
  try simp only [List.setIfInBounds_toArray, List.set_cons_zero, List.set_cons_succ] at hS
  refine wpAnyD_take (n := 24) (i := 21) (v := ?v21) rfl (by kernel_rfl) (by kernel_rfl) (by kernel_rfl) (by kernel_rfl) (SD_put (by decide)) (fun _ _ _ h => h) (closed_all (by kernel_rfl)) (Or.inl ⟨by rfl, ?y21⟩) hS ?r21
  case y21 =>
    intro X hX
    clear hX
    go_simp
    try with_reducible rfl
    try (rw [if_neg (by first | omega | (simp [ByteArray.size_append, ByteArray.size]; omega) | (simp only [ByteArray.size_append]; omega))])
  replace hS := (SD_put (n := 24) (i := 21) (by decide) _ _ (by first | kernel_rfl | simp)).2 hS
  try simp only [Act.put, List.setIfInBounds_toArray, List.set_cons_zero, List.set_cons_succ]
  try simp only [List.setIfInBounds_toArray, List.set_cons_zero, List.set_cons_succ] at hS
  refine wpAnyD_take (n := 24) (i := 22) (v := ?v22) rfl (by kernel_rfl) (by kernel_rfl) (by kernel_rfl) (by kernel_rfl) (SD_put (by decide)) (fun _ _ _ h => h) (closed_all (by kernel_rfl)) (Or.inl ⟨by rfl, ?y22⟩) hS ?r22
  case y22 =>
    intro X hX
    clear hX
    go_simp
    try with_reducible rfl
    try (rw [if_neg (by first | omega | (simp [ByteArray.size_append, ByteArray.size]; omega) | (simp only [ByteArray.size_append]; omega))])
  replace hS := (SD_put (n := 24) (i := 22) (by decide) _ _ (by first | kernel_rfl | simp)).2 hS
  try simp only [Act.put, List.setIfInBounds_toArray, List.set_cons_zero, List.set_cons_succ]
  try simp only [List.setIfInBounds_toArray, List.set_cons_zero, List.set_cons_succ] at hS
  refine wpAnyD_take (n := 24) (i := 23) (v := ?v23) rfl (by kernel_rfl) (by kernel_rfl) (by kernel_rfl) (by kernel_rfl) (SD_put (by decide)) (fun _ _ _ h => h) (closed_all (by kernel_rfl)) (Or.inl ⟨by rfl, ?y23⟩) hS ?r23
  case y23 =>
    intro X hX
    clear hX
    go_simp
    try with_reducible rfl
    try (rw [if_neg (by first | omega | (simp [ByteArray.size_append, ByteArray.size]; omega) | (simp only [ByteArray.size_append]; omega))])
  replace hS := (SD_put (n := 24) (i := 23) (by decide) _ _ (by first | kernel_rfl | simp)).2 hS
  try simp only [Act.put, List.setIfInBounds_toArray, List.set_cons_zero, List.set_cons_succ]
  try simp only [List.setIfInBounds_toArray, List.set_cons_zero, List.set_cons_succ] at hS
  refine wpAnyG_done (by kernel_rfl) ?_ _
  clear hS hC
  go_wp2
  go_ret2
  exact ⟨rfl, more_of_below (HBW.out.trans (by have hws := HBW.out.size; exact (by repeat' (first | (with_reducible exact Below.refl _ _) | (with_reducible assumption) | (with_reducible refine below_more ?_ ?_ _) | (with_reducible refine below_drewN ?_ _) | (with_reducible refine Below.drew ?_) | (with_reducible refine Below.alloc ?_ ?_ _) | (with_reducible refine Below.setCell ?_ ?_ _) | go_size | (simp [more_size]; done) | (simp [more_size]; omega)))))⟩
end Go.Proofs.YtcckbmmjklahfaaDoor
