/- The walk of asm's word at every text; asm.Line, asm.Word. Conditions: the library's variables are as they were laid; the text's size is bounded. -/
import Derived.Test.YtcckbmmjklahfaaDoorAsJ3
import Derived.Test.YtcckbmmjklahfaaDoorAsJ2
import Derived.Test.YtcckbmmjklahfaaDoorAsJ0
namespace Go.Proofs.YtcckbmmjklahfaaDoor
set_option linter.all false
open Go.RowKit
namespace As
theorem splitB_small (sep : ByteArray) (save : Nat) (hsv : save = 0) : ∀ (k : Nat) (s p : ByteArray), p ∈ Lib.splitB sep save k s → p.size ≤ s.size := by
  subst hsv
  intro k
  induction k with
  | zero => intro s p h; simp only [Lib.splitB, List.mem_singleton] at h; subst h; exact Nat.le_refl _
  | succ k ih =>
    intro s p h
    simp only [Lib.splitB] at h
    split at h
    · simp only [List.mem_singleton] at h; subst h; exact Nat.le_refl _
    · rcases List.mem_cons.1 h with h | h
      · subst h; simp [ByteArray.size_extract]; omega
      · have := ih _ _ h
        simp [ByteArray.size_extract] at this
        omega
theorem word_of (s : ByteArray) (o : Option Ins) (h : wordP s.data.toList = o) : wordF s.data.toList = done s.data.toList o := by unfold wordF; rw [h]
theorem tab_form : ∀ e ∈ tab, (e.2.1 = 0 ∨ e.2.1 = 2 ∨ (e.2.1 = 3 ∧ e.2.2.2.1 = false)) := by decide +kernel
theorem cut_len (s : List UInt8) : (Lib.cut s [32]).1.length ≤ s.length ∧ (Lib.cut s [32]).2.1.length ≤ s.length := by
  unfold Lib.cut
  split <;> simp <;> omega
/-- the three ways to an end -/
theorem ends {w : World} {base bN b1 b2 : Nat} {vn vs : Value} (hg : Ga w) (hN : Nm w base bN b1 b2 vn vs tab) (s : ByteArray) (x : Ins) (hf : 0 ≤ x.f ∧ x.f ≤ 3) : Ends w bN s x (done s.data.toList (some x)).1 (done s.data.toList (some x)).2 := by
  by_cases hgd : Good x
  · have hlt := enc_lt hgd
    have hl := lineF_enc hgd
    have hE : EncIs x (enc x) 0 := fun w => penc_yes hgd w
    have hL : ∀ t : ByteArray, t.data.toList = lineI x → LineIs w bN (enc x) t 0 := fun t ht w' hg' hb => (line_any (enc x) hlt.1 hlt.2 w' hg' (hN.below hb)).mono fun e w2 ⟨⟨t2, c2, he, h⟩, hw⟩ => ⟨by
      rcases h with ⟨h, _⟩ | ⟨h, hc⟩
      · rw [hl] at h; cases h
      · rw [hl, Option.some.injEq] at h
        have : t2 = t := ByteArray.ext (Array.ext' (by rw [ht]; exact h.symm))
        rw [he, this, hc], hw⟩
    by_cases hs : lineI x = s.data.toList
    · have hd : done s.data.toList (some x) = (enc x, 0) := by rw [← hs]; exact done_line hgd
      rw [hd]
      exact .inl ⟨hE, hL s hs.symm, rfl⟩
    · have hd : done s.data.toList (some x) = (0, 60) := by
        simp only [done]
        rw [if_neg]
        rintro ⟨_, h⟩
        rw [hl, Option.some.injEq] at h
        exact hs h
      rw [hd]
      refine .inr (.inr ⟨enc x, ⟨(lineI x).toArray⟩, hE, hL _ (by simp), ?_, rfl, rfl⟩)
      intro he
      exact hs (by rw [← he])
  · have hd : done s.data.toList (some x) = (0, 60) := by simp [done, hgd]
    rw [hd]
    refine .inr (.inl ⟨fun w => penc_no x.f x.u x.v x.a x.b x.c x.op x.n hf hgd w, ?_, rfl, rfl⟩)
    cases h0 : lineF 0 with
    | none =>
      refine ⟨⟨#[]⟩, 20, fun w' hg' hb => (line_any 0 (by decide) (by decide) w' hg' (hN.below hb)).mono fun e w2 ⟨⟨t2, c2, he, h⟩, hw⟩ => ⟨by
        rcases h with ⟨_, h1, h2⟩ | ⟨h, _⟩
        · rw [he, h1, h2]
        · rw [h0] at h; exact (by cases h), hw⟩⟩
    | some l =>
      refine ⟨⟨l.toArray⟩, 0, fun w' hg' hb => (line_any 0 (by decide) (by decide) w' hg' (hN.below hb)).mono fun e w2 ⟨⟨t2, c2, he, h⟩, hw⟩ => ⟨by
        rcases h with ⟨h, _⟩ | ⟨h, hc⟩
        · rw [h0] at h; cases h
        · rw [h0, Option.some.injEq] at h
          have : t2 = ⟨l.toArray⟩ := ByteArray.ext (Array.ext' (by rw [h]))
          rw [he, this, hc], hw⟩⟩
end As
theorem word_any (s : ByteArray) (w : World) (hg : Ga w) {base bN b1 b2 : Nat} {vn vs : Value} (hN : As.Nm w base bN b1 b2 vn vs As.tab) :
    Calls Tryd.prog 25 #[.pointer (some ⟨bN, 0, none⟩), .string s] w fun e w' => e = .returned (.tuple #[.int .u32 (As.wordF s.data.toList).1, .int .i64 (As.wordF s.data.toList).2]) ∧ ∃ g, w' = more w g := by
  have hsl : s.data.toList.length = s.size := by simp
  by_cases h40 : 40 < s.size
  · rw [As.word_of s none (by unfold As.wordP; rw [if_pos (by omega)])]
    exact word_long s w bN h40
  have hP := show As.wordP s.data.toList = _ from by unfold As.wordP; rw [if_neg (by omega)]
  have HC : CutIs s ⟨(Lib.cut s.data.toList [32]).1.toArray⟩ ⟨(Lib.cut s.data.toList [32]).2.1.toArray⟩ (Lib.cut s.data.toList [32]).2.2 := fun w hg => cut_any s ⟨#[32]⟩ w (by omega) hg
  have hcl := As.cut_len s.data.toList
  generalize Lib.cut s.data.toList [32] = c at *
  obtain ⟨nm, rs, B⟩ := c
  simp only at HC hP hcl
  have hnm : (⟨nm.toArray⟩ : ByteArray).size ≤ 1000 := by show nm.toArray.size ≤ 1000; simp; omega
  have hrs : (⟨rs.toArray⟩ : ByteArray).size ≤ 40 := by show rs.toArray.size ≤ 40; simp; omega
  cases hl : As.look nm with
  | none =>
    rw [hl] at hP
    rw [As.word_of s none hP]
    exact word_noname s _ _ B w bN (by omega) (Lib.hid HC) (Lib.hid hg) (hN.rn hnm (by simpa using hl))
  | some i =>
    obtain ⟨S, hi, hi84⟩ := As.look_lt hl
    have hR := hN.rw (nm := ⟨nm.toArray⟩) (S := S) (i := i) (by simpa using hl) (by simpa using hi)
    have hform := As.tab_form _ (List.mem_of_getElem? hi)
    simp only at hform
    rw [hl] at hP
    simp only [hi] at hP
    obtain ⟨ps, hps⟩ : ∃ ps, ps = Lib.splitB ⟨#[44, 32]⟩ 0 (Lib.countB ⟨rs.toArray⟩ ⟨#[44, 32]⟩) ⟨rs.toArray⟩ := ⟨_, rfl⟩
    have hpl : ps.length = Lib.countB ⟨rs.toArray⟩ ⟨#[44, 32]⟩ + 1 := by rw [hps]; exact Lib.splitB_all _ (by decide) 0 _ _ rfl
    have hpm : ps.map (·.data.toList) = Lib.split rs [44, 32] := by rw [hps, Lib.splitB_data]; rfl
    have hpn : ps.length ≤ 60 := by
      have := Lib.countB_le ⟨#[44, 32]⟩ (by decide) _ ⟨rs.toArray⟩ (Nat.le_refl _)
      omega
    have hpz : ∀ p ∈ ps, p.size < 4294967281 := fun p hp => by
      rw [hps] at hp
      have := As.splitB_small _ 0 rfl _ _ _ hp
      omega
    have HS : SplitIs ⟨rs.toArray⟩ ps := fun w hg => by
      have := split_any ⟨rs.toArray⟩ ⟨#[44, 32]⟩ w hg (by omega) (by decide)
      rw [← hps, ← hpl] at this
      exact this
    have HY : ∀ (O : List (Int × Bool)), (∀ (k : Nat) (x : Int × Bool), O[k]? = some x → ∃ p : List UInt8, (ps.map (·.data.toList))[k]? = some p ∧ As.opd p = some x) → ∀ (k : Nat) (p : ByteArray) (x : Int × Bool), O[k]? = some x → ps[k]? = some p → OpYes p x := fun O hO k p x hk hp w hg => by
      obtain ⟨q, h1, h2⟩ := hO k x hk
      rw [List.getElem?_map, hp] at h1
      simp only [Option.map_some, Option.some.injEq] at h1
      subst h1
      exact (operand_any p w hg (hpz p (List.mem_of_getElem? hp))).1 x.1 x.2 h2
    rw [← hpm] at hP
    cases hO : As.opds (ps.map (·.data.toList)) with
    | none =>
      rw [hO] at hP
      rw [As.word_of s none hP]
      obtain ⟨O, o1, o2, q, o3, o4⟩ := As.opds_no hO
      refine word_noop s _ _ B S ps O w bN (by omega) hpn (by simpa using o1) (Lib.hid HC) (Lib.hid HS) (Lib.hid (HY O o2)) (Lib.hid fun p hp w hg => ?_) (Lib.hid hg) hR
      rw [List.getElem?_map, hp] at o3
      simp only [Option.map_some, Option.some.injEq] at o3
      subst o3
      exact (operand_any p w hg (hpz p (List.mem_of_getElem? hp))).2 o4
    | some O =>
      rw [hO] at hP
      simp only at hP
      obtain ⟨o1, o2⟩ := As.opds_at hO
      rw [List.length_map] at o1
      have HYO := Lib.hid (HY O o2)
      have hW := As.word_of s _ hP
      rw [hW]
      have HE := fun x hf => As.ends hg hN s x hf
      obtain ⟨k0, k1, k2, k3⟩ := S
      simp only at hform
      clear hP hO o2 HY hpm hps hi hl hW
      have hsz : s.size ≤ 40 := by omega
      by_cases hk3 : k0 = 3
      · by_cases hl1 : O.length = 1
        · obtain ⟨⟨n, r⟩, rfl⟩ : ∃ x, O = [x] := List.length_eq_one_iff.1 hl1
          have hk2 : k2 = false := by
            rcases hform with h | h | h
            · omega
            · omega
            · exact h.2
          subst hk3 hk2
          simp only [As.build, if_true]
          cases r
          · exact word_w3f s _ _ B k1 k3 n ps w bN hsz hpn _ _ (by omega) (by omega) (Lib.hid (HE ⟨3, true, k3, k1, 0, 0, 0, n⟩ (by simp))) (Lib.hid HC) (Lib.hid HS) HYO (Lib.hid hg) hR
          · exact word_w3t s _ _ B k1 k3 n ps w bN hsz hpn _ _ (by omega) (by omega) (Lib.hid (HE ⟨3, false, k3, k1, 0, n, 0, 0⟩ (by simp))) (Lib.hid HC) (Lib.hid HS) HYO (Lib.hid hg) hR
        · have hb : As.build (k0, k1, k2, k3) O = none := by
            match O, hl1 with
            | [], _ => rfl
            | [x], h => exact absurd rfl h
            | [x, y], _ => rfl
            | [x, y, z], _ => simp [As.build, hk3]
            | x :: y :: z :: u :: t, _ => rfl
          rw [hb]
          exact word_defJ s _ _ B k0 k1 k2 k3 ps O w bN hsz hpn o1.symm (Lib.hid hk3) hl1 (Lib.hid HC) (Lib.hid HS) HYO (Lib.hid hg) hR
      · by_cases hl3 : O.length = 3
        · obtain ⟨⟨p0, r0⟩, ⟨q0, r1⟩, ⟨n, r⟩, rfl⟩ : ∃ x y z, O = [x, y, z] := by
            match O, hl3 with
            | [x, y, z], _ => exact ⟨x, y, z, rfl⟩
          rcases hform with h | h | h
          · subst h
            cases r
            · have hb : As.build (0, k1, k2, k3) [(p0, r0), (q0, r1), (n, false)] = some ⟨1, k2, k3, p0, q0, 0, k1, n⟩ := rfl
              rw [hb]
              exact word_w0f s _ _ B k1 k2 k3 p0 q0 n r0 r1 ps w bN hsz hpn _ _ (by simp at o1; omega) (by simp at o1; omega) (Lib.hid (HE _ (by simp))) (Lib.hid HC) (Lib.hid HS) HYO (Lib.hid hg) hR
            · have hb : As.build (0, k1, k2, k3) [(p0, r0), (q0, r1), (n, true)] = some ⟨0, k2, k3, p0, q0, n, k1, 0⟩ := rfl
              rw [hb]
              exact word_w0t s _ _ B k1 k2 k3 p0 q0 n r0 r1 ps w bN hsz hpn _ _ (by simp at o1; omega) (by simp at o1; omega) (Lib.hid (HE _ (by simp))) (Lib.hid HC) (Lib.hid HS) HYO (Lib.hid hg) hR
          · subst h
            cases r
            · have hb : As.build (2, k1, k2, k3) [(p0, r0), (q0, r1), (n, false)] = some ⟨2, k2, k3, p0, q0, 0, k1, n⟩ := rfl
              rw [hb]
              exact word_w2f s _ _ B k1 k2 k3 p0 q0 n r0 r1 ps w bN hsz hpn _ _ (by simp at o1; omega) (by simp at o1; omega) (Lib.hid (HE _ (by simp))) (Lib.hid HC) (Lib.hid HS) HYO (Lib.hid hg) hR
            · have hb : As.build (2, k1, k2, k3) [(p0, r0), (q0, r1), (n, true)] = some ⟨2, k2, k3, p0, q0, n, k1, 0⟩ := rfl
              rw [hb]
              exact word_w2t s _ _ B k1 k2 k3 p0 q0 n r0 r1 ps w bN hsz hpn _ _ (by simp at o1; omega) (by simp at o1; omega) (Lib.hid (HE _ (by simp))) (Lib.hid HC) (Lib.hid HS) HYO (Lib.hid hg) hR
          · exact absurd h.1 hk3
        · have hb : As.build (k0, k1, k2, k3) O = none := by
            match O, hl3 with
            | [], _ => rfl
            | [x], _ => simp [As.build, hk3]
            | [x, y], _ => rfl
            | [x, y, z], h => exact absurd rfl h
            | x :: y :: z :: u :: t, _ => rfl
          rw [hb]
          exact word_defM s _ _ B k0 k1 k2 k3 ps O w bN hsz hpn o1.symm hk3 hl3 (Lib.hid HC) (Lib.hid HS) HYO (Lib.hid hg) hR
set_option maxRecDepth 100000 in
theorem Line_any (z : Int) (h0 : 0 ≤ z) (h1 : z < 4294967296) (w : World) (hg : Ga w) :
    Calls Tryd.prog 4 #[.int .u32 z] w fun e w' => As.LRet z e ∧ ∃ g, w' = more w g := by
  have HG := Lib.hid hg
  have HL := Lib.hid (fun w hg base bN b1 b2 vn vs hN => line_any z h0 h1 w hg (base := base) (bN := bN) (b1 := b1) (b2 := b2) (vn := vn) (vs := vs) hN)
  clear hg h0 h1
  go_enter Tryd.func4, Tryd.ntmps4
  go_wp2_with (first | (go_at_call 7; (with_reducible refine (named_any _ HG.out).mono ?_); rintro e w2 ⟨⟨bN, b1, b2, vn, vs, rfl, hN⟩, g, rfl⟩; replace hN := Lib.hid hN) | (go_at_call 8; (with_reducible refine (HL.out _ (HG.out.more _) _ _ _ _ _ _ hN.out).mono ?_); rintro e w3 ⟨⟨t, c, rfl, hr⟩, g2, rfl⟩; replace hr := Lib.hid hr))
  go_ret2
  exact ⟨⟨t, c, rfl, hr.out⟩, more_of_below (by repeat' (first | (with_reducible exact Below.refl _ _) | (with_reducible assumption) | (with_reducible refine below_more ?_ ?_ _) | (with_reducible refine below_drewN ?_ _) | (with_reducible refine Below.drew ?_) | (with_reducible refine Below.alloc ?_ ?_ _) | (with_reducible refine Below.setCell ?_ ?_ _) | go_size | (simp [more_size]; done) | (simp [more_size]; omega)))⟩
set_option maxRecDepth 100000 in
theorem Word_any (s : ByteArray) (w : World) (hg : Ga w) :
    Calls Tryd.prog 14 #[.string s] w fun e w' => e = .returned (.tuple #[.int .u32 (As.wordF s.data.toList).1, .int .i64 (As.wordF s.data.toList).2]) ∧ ∃ g, w' = more w g := by
  have HG := Lib.hid hg
  have HL := Lib.hid (fun w hg base bN b1 b2 vn vs hN => word_any s w hg (base := base) (bN := bN) (b1 := b1) (b2 := b2) (vn := vn) (vs := vs) hN)
  generalize As.wordF s.data.toList = r at *
  obtain ⟨z, c⟩ := r
  clear hg
  go_enter Tryd.func14, Tryd.ntmps14
  go_wp2_with (first | (go_at_call 7; (with_reducible refine (named_any _ HG.out).mono ?_); rintro e w2 ⟨⟨bN, b1, b2, vn, vs, rfl, hN⟩, g, rfl⟩; replace hN := Lib.hid hN) | (go_at_call 25; (with_reducible refine (HL.out _ (HG.out.more _) _ _ _ _ _ _ hN.out).mono ?_); rintro e w3 ⟨rfl, g2, rfl⟩))
  go_ret2
  exact ⟨rfl, more_of_below (by repeat' (first | (with_reducible exact Below.refl _ _) | (with_reducible assumption) | (with_reducible refine below_more ?_ ?_ _) | (with_reducible refine below_drewN ?_ _) | (with_reducible refine Below.drew ?_) | (with_reducible refine Below.alloc ?_ ?_ _) | (with_reducible refine Below.setCell ?_ ?_ _) | go_size | (simp [more_size]; done) | (simp [more_size]; omega)))⟩
end Go.Proofs.YtcckbmmjklahfaaDoor
