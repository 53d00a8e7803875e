/- The walk of the document's Word at every text. Conditions: the text is not too long. -/
import Derived.Test.YtcckbmmjklahfaaGreatDoorAtC
namespace Go.Proofs.YtcckbmmjklahfaaGreatDoor
set_option linter.all false
open Go.RowKit
namespace As
theorem rends (s : ByteArray) (x : Ins) (hf : 0 ≤ x.f ∧ x.f ≤ 3) : REnds s x (done s.data.toList (some x)).1 (done s.data.toList (some x)).2 := by
  by_cases hgd : Good x
  · have hlt := enc_lt hgd
    have hl := lineF_enc hgd
    have hE : REncIs x (enc x) 0 := fun w => renc_yes hgd w
    obtain ⟨t, c, hL, h⟩ := rline_is (enc x) hlt.1 hlt.2
    have h2 : t.data.toList = lineI x := by
      rcases h with ⟨h, _⟩ | ⟨h, _⟩
      · rw [hl] at h; cases h
      · rw [hl, Option.some.injEq] at h; exact h.symm
    by_cases hs : lineI x = s.data.toList
    · have hd : done s.data.toList (some x) = (enc x, 0) := by rw [← hs]; exact done_line hgd
      rw [hd]
      have hts : t = s := ByteArray.ext (Array.ext' (by rw [h2, hs]))
      subst hts
      exact .inl ⟨hE, ⟨c, hL⟩, rfl⟩
    · have hd : done s.data.toList (some x) = (0, 60) := by
        simp only [done]
        rw [if_neg]
        rintro ⟨_, h⟩
        rw [hl, Option.some.injEq] at h
        exact hs h
      rw [hd]
      refine .inr (.inr ⟨enc x, t, c, hE, hL, ?_, rfl, rfl⟩)
      intro he
      exact hs (by rw [← he, h2])
  · have hd : done s.data.toList (some x) = (0, 60) := by simp [done, hgd]
    rw [hd]
    obtain ⟨t, c, hL, _⟩ := rline_is 0 (by decide) (by decide)
    exact .inr (.inl ⟨fun w => renc_no x.f x.u x.v x.a x.b x.c x.op x.n hf hgd w, ⟨t, c, hL⟩, rfl, rfl⟩)
theorem parts_form {nm : List UInt8} {x : Ins} (h : partsR nm = some x) : x.f = 0 ∨ x.f = 2 ∨ x.f = 3 := by
  unfold partsR at h
  split at h
  · simp only [Option.some.injEq] at h; subst h; exact .inr (.inl rfl)
  · simp only at h
    split at h
    · split at h
      · simp only [Option.some.injEq] at h; subst h; exact .inr (.inr rfl)
      · cases h
    · split at h
      · simp only [Option.some.injEq] at h; subst h; exact .inl rfl
      · cases h
theorem wordR_of (s : ByteArray) (o : Option Ins) (h : wordR s.data.toList = o) : wordF s.data.toList = done s.data.toList o := by rw [← wordR_eq, h]
end As
theorem rWord_any (s : ByteArray) (w : World) (hs : s.size ≤ 40000) :
    Calls Tryz.prog 8 #[.string s] w fun e w' => e = .returned (.tuple #[.int .u32 (As.wordF s.data.toList).1, .int .i64 (As.wordF s.data.toList).2]) ∧ ∃ g, w' = more w g := by
  have hsl : s.data.toList.length = s.size := by simp
  by_cases h60 : 60 < s.size
  · rw [As.wordR_of s none (by unfold As.wordR; rw [if_pos (by omega)])]
    exact rword_long s w h60
  have hP := show As.wordR s.data.toList = _ from by unfold As.wordR; rw [if_neg (by omega)]
  have h60' : (s.size : Int) ≤ 60 := by omega
  have HC := rcut_is s ⟨#[32]⟩ hs (by decide) (by decide)
  have hlen : (Lib.cut s.data.toList [32]).1.length ≤ s.data.toList.length ∧ (Lib.cut s.data.toList [32]).2.1.length ≤ s.data.toList.length := by
    unfold Lib.cut
    split <;> simp <;> omega
  have hd : (⟨#[32]⟩ : ByteArray).data.toList = [32] := rfl
  rw [hd] at HC
  generalize Lib.cut s.data.toList [32] = c at *
  obtain ⟨nm, rs, B⟩ := c
  simp only at HC hP hlen
  have hnm : (⟨nm.toArray⟩ : ByteArray).size ≤ 40000 := by show nm.toArray.size ≤ 40000; simp; omega
  have hrs : (⟨rs.toArray⟩ : ByteArray).size ≤ 40000 := by show rs.toArray.size ≤ 40000; simp; omega
  have HP := rparts_is ⟨nm.toArray⟩ hnm
  have hdn : (⟨nm.toArray⟩ : ByteArray).data.toList = nm := rfl
  have hdr : (⟨rs.toArray⟩ : ByteArray).data.toList = rs := rfl
  rw [hdn] at HP
  cases B
  · simp only [if_true] at hP
    rw [As.wordR_of s none hP]
    rcases HP with ⟨x, _, hx⟩ | ⟨_, x, hx⟩
    · obtain ⟨f, u, v, a, b, c, op, n⟩ := x
      exact rword_nocut s _ _ f a b c op n u v true w h60' (Lib.hid HC) (Lib.hid hx)
    · obtain ⟨f, u, v, a, b, c, op, n⟩ := x
      exact rword_nocut s _ _ f a b c op n u v false w h60' (Lib.hid HC) (Lib.hid hx)
  · simp only [Bool.true_eq_false, if_false] at hP
    rcases HP with ⟨x, hx, Hx⟩ | ⟨hx, x, Hx⟩
    · rw [hx] at hP
      simp only at hP
      have hW := As.wordR_of s _ hP
      rw [hW]
      have hf := As.parts_form hx
      have HE := fun x hf => As.rends s x hf
      have HR : ∀ t : ByteArray, t.size ≤ 40000 → RRegIs t (As.regR t.data.toList).1 (As.regR t.data.toList).2 := fun t ht w => rregister_any t w ht
      have HN : ∀ t : ByteArray, t.size ≤ 40000 → RNumIs t (As.numR t.data.toList).1 (As.numR t.data.toList).2 := fun t ht w => rnumber_any t w ht
      obtain ⟨f, u, v, a, b, c, op, n⟩ := x
      simp only at hf
      clear hP hx hW
      by_cases h3 : f = 3
      · subst h3
        have HRr := HR _ hrs
        have HNr := HN _ hrs
        rw [hdr] at HRr HNr
        unfold As.buildR
        simp only [if_true]
        cases hr : (As.regR rs).2
        · rw [hr] at HRr
          cases hn : (As.numR rs).2
          · rw [hn] at HNr
            exact rword_j0 s _ _ a b c op n _ _ u v w h60' (Lib.hid HC) (Lib.hid Hx) (Lib.hid HRr) (Lib.hid HNr)
          · rw [hn] at HNr
            simp only [Bool.true_eq_false, and_false, if_false]
            exact rword_jn s _ _ a b c op n _ _ u v w h60' (Lib.hid HC) (Lib.hid Hx) (Lib.hid HRr) (Lib.hid HNr) _ _ (Lib.hid (HE _ ⟨by simp, by simp⟩))
        · rw [hr] at HRr
          simp only [Bool.true_eq_false, false_and, if_false]
          exact rword_jr s _ _ a b c op n _ _ u v _ w h60' (Lib.hid HC) (Lib.hid Hx) (Lib.hid HRr) (Lib.hid HNr) _ _ (Lib.hid (HE _ ⟨by simp, by simp⟩))
      · have HC1 := rcut_is ⟨rs.toArray⟩ ⟨#[44, 32]⟩ hrs (by decide) (by decide)
        have hd2 : (⟨#[44, 32]⟩ : ByteArray).data.toList = [44, 32] := rfl
        rw [hd2, hdr] at HC1
        have hl1 : (Lib.cut rs [44, 32]).1.length ≤ rs.length ∧ (Lib.cut rs [44, 32]).2.1.length ≤ rs.length := by
          unfold Lib.cut
          split <;> simp <;> omega
        unfold As.buildR
        simp only [if_neg h3]
        generalize Lib.cut rs [44, 32] = c1 at *
        obtain ⟨A1, M1, k1⟩ := c1
        simp only at HC1 hl1 ⊢
        have hA1 : (⟨A1.toArray⟩ : ByteArray).size ≤ 40000 := by show A1.toArray.size ≤ 40000; simp; omega
        have hM1 : (⟨M1.toArray⟩ : ByteArray).size ≤ 40000 := by show M1.toArray.size ≤ 40000; simp; omega
        have HC2 := rcut_is ⟨M1.toArray⟩ ⟨#[44, 32]⟩ hM1 (by decide) (by decide)
        have hdm : (⟨M1.toArray⟩ : ByteArray).data.toList = M1 := rfl
        rw [hd2, hdm] at HC2
        have hl2 : (Lib.cut M1 [44, 32]).1.length ≤ M1.length ∧ (Lib.cut M1 [44, 32]).2.1.length ≤ M1.length := by
          unfold Lib.cut
          split <;> simp <;> omega
        generalize Lib.cut M1 [44, 32] = c2 at *
        obtain ⟨A2, L2, k2⟩ := c2
        simp only at HC2 hl2 ⊢
        have hA2 : (⟨A2.toArray⟩ : ByteArray).size ≤ 40000 := by show A2.toArray.size ≤ 40000; simp; omega
        have hL2 : (⟨L2.toArray⟩ : ByteArray).size ≤ 40000 := by show L2.toArray.size ≤ 40000; simp; omega
        have R1 := HR _ hA1
        have R2 := HR _ hA2
        have R3 := HR _ hL2
        have N3 := HN _ hL2
        have e1 : (⟨A1.toArray⟩ : ByteArray).data.toList = A1 := rfl
        have e2 : (⟨A2.toArray⟩ : ByteArray).data.toList = A2 := rfl
        have e3 : (⟨L2.toArray⟩ : ByteArray).data.toList = L2 := rfl
        rw [e1] at R1
        rw [e2] at R2
        rw [e3] at R3 N3
        have hf2 : f = 0 ∨ f = 2 := by omega
        cases h1 : (As.regR A1).2
        · rw [h1] at R1
          rw [if_pos (.inl rfl)]
          rcases hf2 with rfl | rfl
          · exact rword_x10 s _ _ a b c op n _ _ _ _ u v _ _ _ _ k1 k2 _ _ _ w h60' (Lib.hid HC) (Lib.hid HC1) (Lib.hid HC2) (Lib.hid Hx) (Lib.hid R1) (Lib.hid R2) (Lib.hid R3) (Lib.hid N3)
          · exact rword_x12 s _ _ a b c op n _ _ _ _ u v _ _ _ _ k1 k2 _ _ _ w h60' (Lib.hid HC) (Lib.hid HC1) (Lib.hid HC2) (Lib.hid Hx) (Lib.hid R1) (Lib.hid R2) (Lib.hid R3) (Lib.hid N3)
        · rw [h1] at R1
          cases h2 : (As.regR A2).2
          · rw [h2] at R2
            rw [if_pos (.inr (.inl rfl))]
            rcases hf2 with rfl | rfl
            · exact rword_x20 s _ _ a b c op n _ _ _ _ u v _ _ _ _ k1 k2 _ _ w h60' (Lib.hid HC) (Lib.hid HC1) (Lib.hid HC2) (Lib.hid Hx) (Lib.hid R1) (Lib.hid R2) (Lib.hid R3) (Lib.hid N3)
            · exact rword_x22 s _ _ a b c op n _ _ _ _ u v _ _ _ _ k1 k2 _ _ w h60' (Lib.hid HC) (Lib.hid HC1) (Lib.hid HC2) (Lib.hid Hx) (Lib.hid R1) (Lib.hid R2) (Lib.hid R3) (Lib.hid N3)
          · rw [h2] at R2
            cases hr : (As.regR L2).2
            · rw [hr] at R3
              cases hn : (As.numR L2).2
              · rw [hn] at N3
                rw [if_pos (.inr (.inr (.inl ⟨rfl, rfl⟩)))]
                rcases hf2 with rfl | rfl
                · exact rword_x30 s _ _ a b c op n _ _ _ _ u v _ _ _ _ k1 k2 w h60' (Lib.hid HC) (Lib.hid HC1) (Lib.hid HC2) (Lib.hid Hx) (Lib.hid R1) (Lib.hid R2) (Lib.hid R3) (Lib.hid N3)
                · exact rword_x32 s _ _ a b c op n _ _ _ _ u v _ _ _ _ k1 k2 w h60' (Lib.hid HC) (Lib.hid HC1) (Lib.hid HC2) (Lib.hid Hx) (Lib.hid R1) (Lib.hid R2) (Lib.hid R3) (Lib.hid N3)
              · rw [hn] at N3
                simp only [Bool.true_eq_false, Bool.false_eq_true, false_or, and_false, false_and, if_false]
                rcases hf2 with rfl | rfl
                · exact rword_mn0 s _ _ a b c op n _ _ _ _ u v _ _ _ _ k1 k2 w h60' (Lib.hid HC) (Lib.hid HC1) (Lib.hid HC2) (Lib.hid Hx) (Lib.hid R1) (Lib.hid R2) (Lib.hid R3) (Lib.hid N3) _ _ (Lib.hid (HE _ ⟨by simp, by simp⟩))
                · exact rword_mn2 s _ _ a b c op n _ _ _ _ u v _ _ _ _ k1 k2 w h60' (Lib.hid HC) (Lib.hid HC1) (Lib.hid HC2) (Lib.hid Hx) (Lib.hid R1) (Lib.hid R2) (Lib.hid R3) (Lib.hid N3) _ _ (Lib.hid (HE _ ⟨by simp, by simp⟩))
            · rw [hr] at R3
              rcases hf2 with rfl | rfl
              · simp only [Bool.true_eq_false, false_or, false_and, true_and, if_true]
                rw [if_neg (by decide)]
                exact rword_mr0 s _ _ a b c op n _ _ _ _ u v _ _ _ _ k1 k2 _ w h60' (Lib.hid HC) (Lib.hid HC1) (Lib.hid HC2) (Lib.hid Hx) (Lib.hid R1) (Lib.hid R2) (Lib.hid R3) (Lib.hid N3) _ _ (Lib.hid (HE _ ⟨by simp, by simp⟩))
              · rw [if_pos (.inr (.inr (.inr ⟨rfl, rfl⟩)))]
                exact rword_x42 s _ _ a b c op n _ _ _ _ u v _ _ _ _ k1 k2 _ w h60' (Lib.hid HC) (Lib.hid HC1) (Lib.hid HC2) (Lib.hid Hx) (Lib.hid R1) (Lib.hid R2) (Lib.hid R3) (Lib.hid N3)
    · rw [hx] at hP
      rw [As.wordR_of s none hP]
      obtain ⟨f, u, v, a, b, c, op, n⟩ := x
      exact rword_noname s _ _ f a b c op n u v w h60' (Lib.hid HC) (Lib.hid Hx)
end Go.Proofs.YtcckbmmjklahfaaGreatDoor
