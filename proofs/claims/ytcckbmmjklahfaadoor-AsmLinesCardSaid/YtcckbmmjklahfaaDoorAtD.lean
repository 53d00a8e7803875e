/- The walks of the document's Line at every word. Conditions: none. -/
import Derived.Test.YtcckbmmjklahfaaDoorAtA
import Derived.Test.YtcckbmmjklahfaaDoorAtA1
import Derived.Test.YtcckbmmjklahfaaDoorAtA2
namespace Go.Proofs.YtcckbmmjklahfaaDoor
set_option linter.all false
open Go.RowKit
abbrev RLineIs (z : Int) (t : ByteArray) (c : Int) : Prop := ∀ w : World, Calls Tryd.prog 5 #[.int .u32 z] w fun e w' => e = .returned (.tuple #[.string t, .int .i64 c]) ∧ ∃ g, w' = more w g
set_option maxRecDepth 100000 in
theorem rline_no (z : Int) (w : World)
    (HD : Hid (∀ w, Calls Tryd.prog 9 #[.int .u32 z] w fun e w' => e = .returned (.tuple #[.agg #[.int .i64 0, .bool false, .bool false, .int .i64 0, .int .i64 0, .int .i64 0, .int .i64 0, .int .i64 0], .int .i64 20]) ∧ ∃ g, w' = more w g)) :
    Calls Tryd.prog 5 #[.int .u32 z] w fun e w' => e = .returned (.tuple #[.string ⟨#[]⟩, .int .i64 20]) ∧ ∃ g, w' = more w g := by
  go_enter Tryd.func5, Tryd.ntmps5
  go_wp2_with (go_at_call 9; (with_reducible refine (HD.out _).mono ?_); rintro e w2 ⟨rfl, g, rfl⟩)
  go_ret2
  exact ⟨rfl, more_of_below (by repeat' (first | (with_reducible exact Below.refl _ _) | (with_reducible assumption) | (with_reducible refine below_more ?_ ?_ _) | (with_reducible refine below_drewN ?_ _) | (with_reducible refine Below.drew ?_) | (with_reducible refine Below.alloc ?_ ?_ _) | (with_reducible refine Below.setCell ?_ ?_ _) | go_size | (simp [more_size]; done) | (simp [more_size]; omega)))⟩
namespace As
theorem szr_itoa {n : Int} (h0 : -100000000 < n) (h1 : n < 100000000) : (⟨(Lib.itoa n).toArray⟩ : ByteArray).size ≤ 12 := by
  have := itoa_len n h0 h1
  show (Lib.itoa n).toArray.size ≤ 12
  simp; omega
theorem szr_reg {n : Int} (h0 : 0 ≤ n) (h1 : n < 16) : (⟨(reg n).toArray⟩ : ByteArray).size ≤ 12 := by
  have := reg_len n h0 h1
  show (reg n).toArray.size ≤ 12
  simp; omega
theorem ops_cell (i : Nat) (h : i < 12) : (scs ops)[i]? = some (.string ⟨(ops.getD i []).toArray⟩) ∧ (⟨(ops.getD i []).toArray⟩ : ByteArray).size ≤ 10 := by
  have hl : ops.length = 12 := rfl
  refine ⟨by rw [scs_at ops i (by omega)]; simp [List.getD, hl, h], ?_⟩
  have : ∀ i : Fin 12, (ops.getD i.1 []).length ≤ 10 := by decide
  show (ops.getD i []).toArray.size ≤ 10
  simpa using this ⟨i, h⟩
theorem conds_cell (i : Nat) (h : i < 16) : (scs conds)[i]? = some (.string ⟨(conds.getD i []).toArray⟩) ∧ (⟨(conds.getD i []).toArray⟩ : ByteArray).size ≤ 10 := by
  have hl : conds.length = 16 := rfl
  refine ⟨by rw [scs_at conds i (by omega)]; simp [List.getD, hl, h], ?_⟩
  have : ∀ i : Fin 16, (conds.getD i.1 []).length ≤ 10 := by decide
  show (conds.getD i []).toArray.size ≤ 10
  simpa using this ⟨i, h⟩
/-- what the document's Line tells -/
def RL (z : Int) : Prop := ∃ t c, RLineIs z t c ∧ ((lineF z = none ∧ t = ⟨#[]⟩ ∧ c = 20) ∨ (lineF z = some t.data.toList ∧ c = 0))
theorem rl_some {z : Int} {x : Ins} (h : dec z = some x) {t : ByteArray} (ht : t.data.toList = lineI x) (hc : RLineIs z t 0) : RL z :=
  ⟨t, 0, hc, .inr ⟨by unfold lineF; rw [h, ht]; rfl, rfl⟩⟩
end As
theorem rline_is (z : Int) (h0 : 0 ≤ z) (h1 : z < 4294967296) : As.RL z := by
  have HD := fun w => rdec_any z w h0 h1
  cases hd : As.dec z with
  | none =>
    have hD : As.decD z = (As.zero, 20) := by unfold As.decD; rw [hd]
    rw [hD] at HD
    exact ⟨⟨#[]⟩, 20, fun w => rline_no z w (Lib.hid HD), .inl ⟨by unfold As.lineF; rw [hd]; rfl, rfl, rfl⟩⟩
  | some x =>
    have hD : As.decD z = (x, 0) := by unfold As.decD; rw [hd]
    rw [hD] at HD
    obtain ⟨hgd, he, hr⟩ := As.dec_some hd
    have hbd := As.good_bd hgd
    have HR := fun n (a : 0 ≤ n) (b : n < 16) => Lib.hid (fun w => rreg_any n a b w)
    have HI := fun n (a : -100000000 < n) (b : n < 100000000) => Lib.hid (fun w => rdec_itoa n (by omega) (by omega) w)
    obtain ⟨f, u, v, a, b, c, op, n⟩ := x
    simp only at hbd
    obtain ⟨bn0, bn1, ba0, ba1, bb0, bb1, bc0, bc1⟩ := hbd
    obtain ⟨hop, h⟩ := hgd
    simp only at h hop
    obtain ⟨i, rfl⟩ := Int.eq_ofNat_of_zero_le hop.2.2.2.2.2.2.1
    have hi : i < 12 := by omega
    obtain ⟨hT, hNM⟩ := As.ops_cell i hi
    rcases h with ⟨rfl, rfl, h⟩ | ⟨rfl, rfl, h⟩ | ⟨rfl, rfl, h2, h⟩ | ⟨rfl, rfl, h2, h3, h4⟩
    · cases u <;> cases v
      · exact As.rl_some hd (by simp [As.lineI, As.rest, As.name, As.mark, ByteArray.data_append]) (fun w => rline0ff_any z a b c i w _ hNM hi hT _ (As.szr_reg ba0 ba1) (HR a ba0 ba1) _ (As.szr_reg bb0 bb1) (HR b bb0 bb1) _ (As.szr_reg bc0 bc1) (HR c bc0 bc1) (Lib.hid HD))
      · exact As.rl_some hd (by simp [As.lineI, As.rest, As.name, As.mark, ByteArray.data_append]) (fun w => rline0ft_any z a b c i w _ hNM hi hT _ (As.szr_reg ba0 ba1) (HR a ba0 ba1) _ (As.szr_reg bb0 bb1) (HR b bb0 bb1) _ (As.szr_reg bc0 bc1) (HR c bc0 bc1) (Lib.hid HD))
      · exact As.rl_some hd (by simp [As.lineI, As.rest, As.name, As.mark, ByteArray.data_append]) (fun w => rline0tf_any z a b c i w _ hNM hi hT _ (As.szr_reg ba0 ba1) (HR a ba0 ba1) _ (As.szr_reg bb0 bb1) (HR b bb0 bb1) _ (As.szr_reg bc0 bc1) (HR c bc0 bc1) (Lib.hid HD))
      · exact As.rl_some hd (by simp [As.lineI, As.rest, As.name, As.mark, ByteArray.data_append]) (fun w => rline0tt_any z a b c i w _ hNM hi hT _ (As.szr_reg ba0 ba1) (HR a ba0 ba1) _ (As.szr_reg bb0 bb1) (HR b bb0 bb1) _ (As.szr_reg bc0 bc1) (HR c bc0 bc1) (Lib.hid HD))
    · cases u <;> cases v
      · exact As.rl_some hd (by simp [As.lineI, As.rest, As.name, As.mark, ByteArray.data_append]) (fun w => rline1ff_any z a b n i w _ hNM hi hT _ (As.szr_reg ba0 ba1) (HR a ba0 ba1) _ (As.szr_reg bb0 bb1) (HR b bb0 bb1) _ (As.szr_itoa bn0 bn1) (HI n bn0 bn1) (Lib.hid HD))
      · exact As.rl_some hd (by simp [As.lineI, As.rest, As.name, As.mark, ByteArray.data_append]) (fun w => rline1ft_any z a b n i w _ hNM hi hT _ (As.szr_reg ba0 ba1) (HR a ba0 ba1) _ (As.szr_reg bb0 bb1) (HR b bb0 bb1) _ (As.szr_itoa bn0 bn1) (HI n bn0 bn1) (Lib.hid HD))
      · exact As.rl_some hd (by simp [As.lineI, As.rest, As.name, As.mark, ByteArray.data_append]) (fun w => rline1tf_any z a b n i w _ hNM hi hT _ (As.szr_reg ba0 ba1) (HR a ba0 ba1) _ (As.szr_reg bb0 bb1) (HR b bb0 bb1) _ (As.szr_itoa bn0 bn1) (HI n bn0 bn1) (Lib.hid HD))
      · exact As.rl_some hd (by simp [As.lineI, As.rest, As.name, As.mark, ByteArray.data_append]) (fun w => rline1tt_any z a b n i w _ hNM hi hT _ (As.szr_reg ba0 ba1) (HR a ba0 ba1) _ (As.szr_reg bb0 bb1) (HR b bb0 bb1) _ (As.szr_itoa bn0 bn1) (HI n bn0 bn1) (Lib.hid HD))
    · rw [h2] at hd HD
      cases u <;> cases v
      · exact As.rl_some hd (by simp [As.lineI, As.rest, As.name, As.mem, ByteArray.data_append]) (fun w => rline2ff_any z a b n w _ (As.szr_reg ba0 ba1) (HR a ba0 ba1) _ (As.szr_reg bb0 bb1) (HR b bb0 bb1) _ (As.szr_itoa bn0 bn1) (HI n bn0 bn1) (Lib.hid HD))
      · exact As.rl_some hd (by simp [As.lineI, As.rest, As.name, As.mem, ByteArray.data_append]) (fun w => rline2ft_any z a b n w _ (As.szr_reg ba0 ba1) (HR a ba0 ba1) _ (As.szr_reg bb0 bb1) (HR b bb0 bb1) _ (As.szr_itoa bn0 bn1) (HI n bn0 bn1) (Lib.hid HD))
      · exact As.rl_some hd (by simp [As.lineI, As.rest, As.name, As.mem, ByteArray.data_append]) (fun w => rline2tf_any z a b n w _ (As.szr_reg ba0 ba1) (HR a ba0 ba1) _ (As.szr_reg bb0 bb1) (HR b bb0 bb1) _ (As.szr_itoa bn0 bn1) (HI n bn0 bn1) (Lib.hid HD))
      · exact As.rl_some hd (by simp [As.lineI, As.rest, As.name, As.mem, ByteArray.data_append]) (fun w => rline2tt_any z a b n w _ (As.szr_reg ba0 ba1) (HR a ba0 ba1) _ (As.szr_reg bb0 bb1) (HR b bb0 bb1) _ (As.szr_itoa bn0 bn1) (HI n bn0 bn1) (Lib.hid HD))
    · rw [h2] at hd HD
      obtain ⟨j, rfl⟩ := Int.eq_ofNat_of_zero_le ba0
      have hj : j < 16 := by omega
      obtain ⟨hT2, hNM2⟩ := As.conds_cell j hj
      cases u
      · obtain rfl := h4 rfl
        cases v
        · exact As.rl_some hd (by simp [As.lineI, As.rest, As.name, As.jump, ByteArray.data_append]) (fun w => rline3ff_any z c j w _ hNM2 hj hT2 _ (As.szr_reg bc0 bc1) (HR c bc0 bc1) (Lib.hid HD))
        · exact As.rl_some hd (by simp [As.lineI, As.rest, As.name, As.jump, ByteArray.data_append]) (fun w => rline3ft_any z c j w _ hNM2 hj hT2 _ (As.szr_reg bc0 bc1) (HR c bc0 bc1) (Lib.hid HD))
      · obtain ⟨rfl, _, _⟩ := h3 rfl
        cases v
        · exact As.rl_some hd (by simp [As.lineI, As.rest, As.name, As.jump, ByteArray.data_append]) (fun w => rline3tf_any z n j w _ hNM2 hj hT2 _ (As.szr_itoa bn0 bn1) (HI n bn0 bn1) (Lib.hid HD))
        · exact As.rl_some hd (by simp [As.lineI, As.rest, As.name, As.jump, ByteArray.data_append]) (fun w => rline3tt_any z n j w _ hNM2 hj hT2 _ (As.szr_itoa bn0 bn1) (HI n bn0 bn1) (Lib.hid HD))
end Go.Proofs.YtcckbmmjklahfaaDoor
