/- The walk of asm's either: a line's word, an instruction or not. Conditions: the library's variables are as they were laid; the text's size is bounded. The walk of asm.Words: lines' words, or the first line that has none. Conditions: the library's variables are as they were laid; the text's size is bounded. -/
import Derived.Test.YtcckbmmjklahfaaGreatDoorAuH
import Derived.Test.YtcckbmmjklahfaaGreatDoorAuB
import Derived.Test.YtcckbmmjklahfaaGreatDoorAsK
namespace Go.Proofs.YtcckbmmjklahfaaGreatDoor
set_option linter.all false
open Go.RowKit
namespace As
theorem hasp35 (s : List UInt8) : Lib.hasPrefix s [35] = decide (s.head? = some 35) := by
  cases s with
  | nil => rfl
  | cons c t =>
    show (([35] : List UInt8).isPrefixOf (c :: t)) = _
    simp only [List.isPrefixOf, Bool.and_true, List.head?_cons, Option.some.injEq]
    by_cases h : c = 35
    · subst h; rfl
    · rw [decide_eq_false h]
      rw [beq_eq_false_iff_ne]
      exact fun e => h e.symm
theorem ne_bytes4 {x y : ByteArray} (h : x ≠ y) : (x.toList == y.toList) = false := by
  rw [beq_eq_false_iff_ne]
  intro e
  exact h (ByteArray.ext (Array.ext' (by simpa [ByteArray.toList_eq] using e)))
theorem ext1 (s : ByteArray) (c : UInt8) (t : List UInt8) (h : s.data.toList = c :: t) : (s.extract 1 s.size).data.toList = t := by
  have hl : s.data.toList.length = s.size := by simp
  have : (s.extract 1 s.size).data.toList = (s.data.toList.take s.size).drop 1 := by simp [List.drop_take]
  rw [this, List.take_of_length_le (by omega), h]
  rfl
end As
theorem hasp_any (s : ByteArray) (w : World) : Calls Tryz.prog 52 #[.string s, .string ⟨#[35]⟩] w fun e w' => e = .returned (.bool (decide (s.data.toList.head? = some 35))) ∧ w' = w := by
  have := Tryz.strings_HasPrefix s ⟨#[35]⟩ w
  rw [show (⟨#[35]⟩ : ByteArray).data.toList = [35] from rfl, As.hasp35] at this
  exact this
set_option maxRecDepth 100000 in
set_option maxHeartbeats 3200000 in
theorem either_plain (s : ByteArray) (w : World) (bN : Nat) (z c : Int) (h : decide (s.data.toList.head? = some 35) = false)
    (HW : Hid (Calls Tryz.prog 16 #[.pointer (some ⟨bN, 0, none⟩), .string s] w fun e w' => e = .returned (.tuple #[.int .u32 z, .int .i64 c]) ∧ ∃ g, w' = more w g)) :
    Calls Tryz.prog 25 #[.pointer (some ⟨bN, 0, none⟩), .string s] w fun e w' => e = .returned (.tuple #[.int .u32 z, .int .i64 c]) ∧ ∃ g, w' = more w g := by
  have HP := Lib.hid (fun w => hasp_any s w)
  rw [h] at HP
  clear h
  go_enter Tryz.func25, Tryz.ntmps25
  go_wp2_with (first | (go_at_call 52; (with_reducible refine (HP.out _).mono ?_); rintro e w2 ⟨rfl, rfl⟩) | (go_at_call 16; (with_reducible refine HW.out.mono ?_); rintro e w2 ⟨rfl, g, rfl⟩))
  go_ret2
  exact ⟨rfl, more_of_below (by repeat' (first | (with_reducible exact Below.refl _ _) | (with_reducible assumption) | (with_reducible refine below_more ?_ ?_ _) | (with_reducible refine below_drewN ?_ _) | (with_reducible refine Below.drew ?_) | (with_reducible refine Below.alloc ?_ ?_ _) | (with_reducible refine Below.setCell ?_ ?_ _) | go_size | (simp [more_size]; done) | (simp [more_size]; omega)))⟩
set_option maxRecDepth 100000 in
set_option maxHeartbeats 6400000 in
theorem either_sign (s : ByteArray) (w : World) (bN : Nat) (t : List UInt8) (hs : s.data.toList = 35 :: t) (hmax : s.size < 4294967281) (hg : Ga w) (Z C : Int) (hr : As.eitherX s.data.toList = (Z, C)) :
    Calls Tryz.prog 25 #[.pointer (some ⟨bN, 0, none⟩), .string s] w fun e w' => e = .returned (.tuple #[.int .u32 Z, .int .i64 C]) ∧ ∃ g, w' = more w g := by
  have HP := Lib.hid (fun w => hasp_any s w)
  rw [show decide (s.data.toList.head? = some 35) = true by rw [hs]; rfl] at HP
  have hsl : s.data.toList.length = s.size := by simp
  have h1 : (1 : Int) ≤ (s.size : Int) := by rw [hs] at hsl; simp at hsl; omega
  have hx : (s.extract 1 s.size).size < 4294967281 := by simp [ByteArray.size_extract]; omega
  have HU := Lib.hid (fun w hg => pu_any (s.extract 1 s.size) hx w hg)
  rw [As.ext1 s 35 t hs] at HU
  have HG := Lib.hid hg
  clear hsl hx hmax hg
  replace hs := Lib.hid hs
  replace hr := Lib.hid hr
  go_enter Tryz.func25, Tryz.ntmps25
  go_wp2_with (go_at_call 52; (with_reducible refine (HP.out _).mono ?_); rintro e w2 ⟨rfl, rfl⟩)
  go_at_call 53
  refine (HU.out _ HG.out).mono ?_
  rintro e w2 ⟨⟨v, er, rfl, v0, v1, her, hval⟩, g, rfl⟩
  have HV := Lib.hid (show ∀ z, As.unhex t = some z → v = z ∧ er = .nilIface from fun z hz => by
    obtain ⟨q1, q2, q3⟩ := As.unhexF_of hz
    exact hval q1 z q2 q3)
  have HD := fun w => pdec_any v w v0 v1
  have HR := Lib.hid (fun w hg => raw_any v v0 v1 w hg)
  clear hval
  rcases her with rfl | ⟨te, pe, rfl⟩
  · cases hd : As.dec v with
    | none =>
      have e0 : As.decD v = (As.zero, 20) := by unfold As.decD; rw [hd]
      have hl := Lib.hid (show As.lineF v = none by unfold As.lineF; rw [hd]; rfl)
      rw [e0] at HD
      clear hd e0
      simp only [As.iv, As.zero] at HD
      replace HD := Lib.hid HD
      by_cases he : s = ⟨(35 :: As.hex8 v).toArray⟩
      · have := As.ei_ok v0 v1 (show s.data.toList = 35 :: As.hex8 v by rw [he]) hl.out
        rw [hr.out] at this
        cases this
        rw [← he] at HR
        clear he
        go_wp2_with (first | (go_at_call 54; (with_reducible refine (HD.out _).mono ?_); rintro e w2 ⟨rfl, g, rfl⟩) | (go_at_call 28; (with_reducible refine (HR.out _ (HG.out.below (by repeat' (first | (with_reducible exact Below.refl _ _) | (with_reducible assumption) | (with_reducible refine below_more ?_ ?_ _) | (with_reducible refine below_drewN ?_ _) | (with_reducible refine Below.drew ?_) | (with_reducible refine Below.alloc ?_ ?_ _) | (with_reducible refine Below.setCell ?_ ?_ _) | go_size | (simp [more_size]; done) | (simp [more_size]; omega))))).mono ?_); rintro e w2 ⟨rfl, g, rfl⟩))
        go_ret2
        exact ⟨rfl, more_of_below (by repeat' (first | (with_reducible exact Below.refl _ _) | (with_reducible assumption) | (with_reducible refine below_more ?_ ?_ _) | (with_reducible refine below_drewN ?_ _) | (with_reducible refine Below.drew ?_) | (with_reducible refine Below.alloc ?_ ?_ _) | (with_reducible refine Below.setCell ?_ ?_ _) | go_size | (simp [more_size]; done) | (simp [more_size]; omega)))⟩
      · have := As.ei_no_raw hs.out (fun z hz => (HV.out z hz).1) (fun e => he (ByteArray.ext (Array.ext' (by simpa using e))))
        rw [hr.out] at this
        cases this
        have hn1 := As.ne_bytes4 (Ne.symm he)
        clear he
        generalize (⟨(35 :: As.hex8 v).toArray⟩ : ByteArray) = R at *
        go_wp2_with (first | (go_at_call 54; (with_reducible refine (HD.out _).mono ?_); rintro e w2 ⟨rfl, g, rfl⟩) | (go_at_call 28; (with_reducible refine (HR.out _ (HG.out.below (by repeat' (first | (with_reducible exact Below.refl _ _) | (with_reducible assumption) | (with_reducible refine below_more ?_ ?_ _) | (with_reducible refine below_drewN ?_ _) | (with_reducible refine Below.drew ?_) | (with_reducible refine Below.alloc ?_ ?_ _) | (with_reducible refine Below.setCell ?_ ?_ _) | go_size | (simp [more_size]; done) | (simp [more_size]; omega))))).mono ?_); rintro e w2 ⟨rfl, g, rfl⟩))
        go_ret2
        exact ⟨rfl, more_of_below (by repeat' (first | (with_reducible exact Below.refl _ _) | (with_reducible assumption) | (with_reducible refine below_more ?_ ?_ _) | (with_reducible refine below_drewN ?_ _) | (with_reducible refine Below.drew ?_) | (with_reducible refine Below.alloc ?_ ?_ _) | (with_reducible refine Below.setCell ?_ ?_ _) | go_size | (simp [more_size]; done) | (simp [more_size]; omega)))⟩
    | some x =>
      have e0 : As.decD v = (x, 0) := by unfold As.decD; rw [hd]
      have := As.ei_no_line hs.out (fun z hz => (HV.out z hz).1) (show As.lineF v ≠ none by unfold As.lineF; rw [hd]; simp)
      rw [hr.out] at this
      cases this
      rw [e0] at HD
      clear hd e0
      obtain ⟨f, u, v', a, b, c, op, n⟩ := x
      simp only [As.iv] at HD
      replace HD := Lib.hid HD
      go_wp2_with (go_at_call 54; (with_reducible refine (HD.out _).mono ?_); rintro e w2 ⟨rfl, g, rfl⟩)
      go_ret2
      exact ⟨rfl, more_of_below (by repeat' (first | (with_reducible exact Below.refl _ _) | (with_reducible assumption) | (with_reducible refine below_more ?_ ?_ _) | (with_reducible refine below_drewN ?_ _) | (with_reducible refine Below.drew ?_) | (with_reducible refine Below.alloc ?_ ?_ _) | (with_reducible refine Below.setCell ?_ ?_ _) | go_size | (simp [more_size]; done) | (simp [more_size]; omega)))⟩
  · have := As.ei_no hs.out (fun z hz _ => by have := (HV.out z hz).2; cases this)
    rw [hr.out] at this
    cases this
    generalize As.decD v = D at *
    obtain ⟨⟨f, u, v', a, b, c, op, n⟩, c'⟩ := D
    simp only [As.iv] at HD
    replace HD := Lib.hid HD
    go_wp2_with (go_at_call 54; (with_reducible refine (HD.out _).mono ?_); rintro e w2 ⟨rfl, g, rfl⟩)
    go_ret2
    exact ⟨rfl, more_of_below (by repeat' (first | (with_reducible exact Below.refl _ _) | (with_reducible assumption) | (with_reducible refine below_more ?_ ?_ _) | (with_reducible refine below_drewN ?_ _) | (with_reducible refine Below.drew ?_) | (with_reducible refine Below.alloc ?_ ?_ _) | (with_reducible refine Below.setCell ?_ ?_ _) | go_size | (simp [more_size]; done) | (simp [more_size]; omega)))⟩
theorem either_any (s : ByteArray) (w : World) (hg : Ga w) (hmax : s.size < 4294967281) {base bN b1 b2 : Nat} {vn vs : Value} (hN : As.Nm w base bN b1 b2 vn vs As.tab) :
    Calls Tryz.prog 25 #[.pointer (some ⟨bN, 0, none⟩), .string s] w fun e w' => e = .returned (.tuple #[.int .u32 (As.eitherX s.data.toList).1, .int .i64 (As.eitherX s.data.toList).2]) ∧ ∃ g, w' = more w g := by
  by_cases h : s.data.toList.head? = some 35
  · cases hl : s.data.toList with
    | nil => rw [hl] at h; cases h
    | cons c t =>
      rw [hl] at h
      simp only [List.head?_cons, Option.some.injEq] at h
      subst h
      rw [← hl]
      exact either_sign s w bN t hl hmax hg _ _ rfl
  · rw [As.ei_plain h]
    exact either_plain s w bN _ _ (decide_eq_false h) (Lib.hid (word_any s w hg hN))
end Go.Proofs.YtcckbmmjklahfaaGreatDoor

namespace Go.Proofs.YtcckbmmjklahfaaGreatDoor
set_option linter.all false
open Go.RowKit
namespace As
def szOf : Value → Nat
  | .string s => s.size
  | _ => 0
/-- what holds between two lines -/
structure WSt (s : ByteArray) (w0 wr : World) (r : ByteArray) (ws : List Int) (v : Value) : Prop where
  wi : WI s.data.toList ws r.data.toList
  own : wr.ownsRow w0.heap.size 23 1 v ws.length (wcells ws)
  bel : Below w0.heap.size w0 wr
  hs : w0.heap.size ≤ wr.heap.size
/-- what Words tells -/
def WRet (s : List UInt8) (w' : World) (e : Ending) : Prop := ∃ v, e = .returned (.tuple #[v, .int .i64 (wordsF s).2.1, .int .i64 (wordsF s).2.2]) ∧ Reads w' v (wordsF s).1.length 1 (wcells (wordsF s).1)
theorem count_eq (s : List UInt8) : Lib.countByte s 10 = s.count 10 := rfl
end As
theorem info_word : (Tryz.prog.info? 23).map (fun i => (i.zero, i.size, i.bytes)) = some (some (.int .u32 0), 1, 4) := by kernel_rfl
theorem count_any (s : ByteArray) (w : World) : Calls Tryz.prog 23 #[.string s, .string ⟨#[10]⟩] w fun e w' => e = .returned (.int .i64 ((s.data.toList.count 10 : Nat) : Int)) ∧ w' = w := by
  have := Tryz.strings_Count_one s 10 w
  rw [As.count_eq] at this
  exact this
set_option maxRecDepth 100000 in
theorem Words_many (s : ByteArray) (w : World) (h : 65536 < s.data.toList.count 10) :
    Calls Tryz.prog 9 #[.string s] w fun e w' => As.WRet s.data.toList w' e ∧ ∃ g, w' = more w g := by
  have HC := Lib.hid (fun w => count_any s w)
  have HW := Lib.hid (As.words_many h)
  have h2 : (65536 : Int) < ((s.data.toList.count 10 : Nat) : Int) := by omega
  generalize ((s.data.toList.count 10 : Nat) : Int) = N at *
  clear h
  go_enter Tryz.func9, Tryz.ntmps9
  go_wp2_with (go_at_call 23; (with_reducible refine (HC.out _).mono ?_); rintro e w2 ⟨rfl, rfl⟩)
  go_ret3
  exact ⟨⟨.slice none 0 0, by rw [HW.out]; rfl, by rw [HW.out]; exact reads_nil _ _⟩, more_refl _⟩
set_option maxRecDepth 100000 in
set_option maxHeartbeats 12800000 in
theorem Words_few (s : ByteArray) (w : World) (h : s.data.toList.count 10 ≤ 65536) (hmax : (s.size : Int) < 4294967281) (hg : Ga w) :
    Calls Tryz.prog 9 #[.string s] w fun e w' => As.WRet s.data.toList w' e ∧ ∃ g, w' = more w g := by
  obtain ⟨i0, hi, hz0, hz1, hz2⟩ := info_parts info_word
  have HC := Lib.hid (fun w => count_any s w)
  have HI0 := Lib.hid (As.wi_start h)
  have HG := Lib.hid hg
  have h2 : decide ((65536 : Int) < ((s.data.toList.count 10 : Nat) : Int)) = false := decide_eq_false (by omega)
  generalize ((s.data.toList.count 10 : Nat) : Int) = N at *
  replace hmax := Lib.hid hmax
  clear h hg
  go_enter Tryz.func9, Tryz.ntmps9
  go_wp2_with (first | (go_at_call 23; (with_reducible refine (HC.out _).mono ?_); rintro e w2 ⟨rfl, hw2⟩; have hw3 := hw2.symm; subst hw3) | (go_at_call 15; (with_reducible refine (named_any _ HG.out).mono ?_); rintro e w2 ⟨⟨bN, b1, b2, vn, vs, rfl, hN⟩, g, rfl⟩; replace hN := Lib.hid hN))
  obtain ⟨W0, hW0⟩ : ∃ W0, W0 = more w g := ⟨_, rfl⟩
  have HW0 := Lib.hid (show Below w.heap.size w W0 from hW0 ▸ below_more (Below.refl _ _) (Nat.le_refl _) _)
  rw [← hW0] at hN ⊢
  clear hW0
  go_loopw [0, 7] (fun sv v wr => ∃ (r : ByteArray) (ws : List Int), sv = .string r ∧ Hid ((r.size : Int) < 4294967281) ∧ Hid (As.WSt s W0 wr r ws v)) (fun sv _ _ => As.szOf sv)
  case atStart => exact ⟨s, [], rfl, hmax, Lib.hid ⟨HI0.out, World.ownsRow_nil _ _ _ _, Below.refl _ _, Nat.le_refl _⟩⟩
  case round =>
    obtain ⟨r, ws, rfl, hr, H⟩ := hrel
    have hr1 := hr.out
    clear HI0 HC
    have HGr := Lib.hid ((HG.out.below HW0.out).below H.out.bel)
    have HNr := Lib.hid (hN.out.below H.out.bel)
    have hlen := As.wi_len H.out.wi
    obtain ⟨va, vc, hv⟩ := As.owns_form H.out.own
    by_cases h0 : r.size = 0
    · have : r = ⟨#[]⟩ := by apply ByteArray.ext; apply Array.eq_empty_of_size_eq_zero; exact h0
      subst this
      have HE := Lib.hid (As.wi_end H.out.wi)
      go_wp2
      go_ret3
      refine ⟨⟨_, by rw [HE.out]; rfl, by rw [HE.out]; exact Reads.of_owns H.out.own⟩, more_of_below (HW0.out.trans (H.out.bel.mono HW0.out.size))⟩
    · have hemp : r.toList.isEmpty = false := by
        rw [← decide_eq_emptyBytes]
        exact decide_eq_false (fun h => h0 (by rw [h]; rfl))
      have hne : r.data.toList ≠ [] := by
        intro h
        have : r.data.toList.length = 0 := by rw [h]; rfl
        simp at this; exact h0 (by rw [this]; rfl)
      have HCut := Lib.hid (fun w hg => cut_any r ⟨#[10]⟩ w (by omega) hg)
      rw [show (⟨#[10]⟩ : ByteArray).data.toList = [10] from rfl] at HCut
      rcases As.cut_line r.data.toList with ⟨a, t, hrt, ha, hc⟩ | ⟨ha, hc⟩
      · rw [hc] at HCut
        simp only at HCut
        have hlr : r.data.toList.length = r.size := by simp
        have hat : a.length + t.length + 1 = r.size := by rw [← hlr, hrt]; simp; omega
        obtain ⟨A, hA⟩ : ∃ A : ByteArray, A = ⟨a.toArray⟩ := ⟨_, rfl⟩
        obtain ⟨T, hT⟩ : ∃ T : ByteArray, T = ⟨t.toArray⟩ := ⟨_, rfl⟩
        have hAa : A.data.toList = a := by rw [hA]
        have hTt : T.data.toList = t := by rw [hT]
        have hTs : T.size < r.size := by rw [hT]; show t.toArray.size < _; simp; omega
        have hAs : A.size < 4294967281 := by rw [hA]; show a.toArray.size < _; simp; omega
        rw [← hA, ← hT] at HCut
        have HEi := Lib.hid (fun u hg hN => either_any A u hg hAs (base := w.heap.size) (bN := bN) (b1 := b1) (b2 := b2) (vn := vn) (vs := vs) hN)
        rw [hAa] at HEi
        have hNm := Lib.hid (fun g => hN.out.below (H.out.bel.trans (below_more (Below.refl _ _) H.out.hs g)))
        have HO := Lib.hid H.out.own
        have hhs := H.out.hs
        have h21 := hlen
        have wlen : (ws.length : Int) ≤ 65536 := by omega
        have HWI := H.out.wi
        rw [hrt] at HWI
        subst hv
        have hTb := Lib.hid (show (T.size : Int) < 4294967281 by omega)
        clear hrt hc hA hT hAa hlr hat hr1 hAs
        rcases As.either_two a with ⟨z, hz⟩ | hz
        · have HNx := Lib.hid (As.wi_next HWI ha hz)
          rw [hz] at HEi
          clear hz HWI hlen h21
          go_wp2_with (first | (go_at_call 24; (with_reducible refine (HCut.out _ HGr.out).mono ?_); rintro e w3 ⟨rfl, g3, rfl⟩) | (go_at_call 25; (with_reducible refine (HEi.out _ (HGr.out.more _) (hNm.out _)).mono ?_); rintro e w4 ⟨rfl, g4, rfl⟩) | (at_builtin; go_loud (refine wpList_append_reads rfl _ _ 30 rfl W0.heap.size 23 i0 (.int .u32 0) 1 4 Tryz.underlying30 hi hz0 hz1 hz2 rfl (by decide) _ ws.length _ rfl (owns_kept' HO.out ?_) _ 1 [.int .u32 z] rfl (reads_litq _ _ #[.int .u32 z] 23 1 1 (by decide) rfl ?_) ?_ ?_ ?_ ?_ ?_; (focus (exact (by repeat' (first | (with_reducible exact Below.refl _ _) | (with_reducible assumption) | (with_reducible refine below_more ?_ ?_ _) | (with_reducible refine below_drewN ?_ _) | (with_reducible refine Below.drew ?_) | (with_reducible refine Below.alloc ?_ ?_ _) | (with_reducible refine Below.setCell ?_ ?_ _) | go_size | (simp [more_size]; done) | (simp [more_size]; omega))))); (focus (first | rfl | (simp; done) | (simp [more_size]; done))); (focus (intro q hq; simp at hq; subst hq; rfl)); (focus (unfold maxLen; omega)); (focus omega); (focus (first | (simp [more_size]; omega) | omega)); intro v' w1 hown' hgrow)))
          have hb1 := H.out.bel
          refine ⟨⟨T, ws ++ [z], rfl, hTb, Lib.hid ⟨by rw [hTt]; exact HNx.out, by simpa [As.wcells] using hown', below_grown ((by repeat' (first | (with_reducible exact Below.refl _ _) | (with_reducible assumption) | (with_reducible refine below_more ?_ ?_ _) | (with_reducible refine below_drewN ?_ _) | (with_reducible refine Below.drew ?_) | (with_reducible refine Below.alloc ?_ ?_ _) | (with_reducible refine Below.setCell ?_ ?_ _) | go_size | (simp [more_size]; done) | (simp [more_size]; omega)))) (by first | (simp [more_size]; omega) | omega) hgrow (owns_rows HO.out), by have q := hgrow.size; simp [more_size] at q; omega⟩⟩, by simp [As.szOf]; omega⟩
        · have HBd := Lib.hid (As.wi_bad HWI ha (by rw [hz]; decide))
          rw [hz] at HEi
          clear hz HWI hlen h21
          go_wp2_with (first | (go_at_call 24; (with_reducible refine (HCut.out _ HGr.out).mono ?_); rintro e w3 ⟨rfl, g3, rfl⟩) | (go_at_call 25; (with_reducible refine (HEi.out _ (HGr.out.more _) (hNm.out _)).mono ?_); rintro e w4 ⟨rfl, g4, rfl⟩))
          go_ret3
          exact ⟨⟨.slice none 0 0, by rw [HBd.out]; rfl, by rw [HBd.out]; exact reads_nil _ _⟩, more_of_below (HW0.out.trans ((H.out.bel.trans (below_more (Below.refl _ _) H.out.hs _)).mono HW0.out.size))⟩
      · rw [hc] at HCut
        simp only at HCut
        have HBd := Lib.hid (As.wi_rest H.out.wi hne ha)
        have hNm := Lib.hid (fun g => hN.out.below (H.out.bel.trans (below_more (Below.refl _ _) H.out.hs g)))
        have hR2 : (⟨r.data.toList.toArray⟩ : ByteArray) = r := by simp
        rw [hR2] at HCut
        have HEi := fun u hg hN => either_any r u hg (by omega) (base := w.heap.size) (bN := bN) (b1 := b1) (b2 := b2) (vn := vn) (vs := vs) hN
        subst hv
        have wlen : (ws.length : Int) ≤ 65536 := by omega
        clear hlen ha hne hR2 hc hr1
        generalize As.eitherX r.data.toList = Z at *
        obtain ⟨z, c⟩ := Z
        replace HEi := Lib.hid HEi
        obtain ⟨bb, hbb⟩ : ∃ bb, (c != 0) = bb := ⟨_, rfl⟩
        cases bb
        all_goals
          go_wp2_with (first | (go_at_call 24; (with_reducible refine (HCut.out _ HGr.out).mono ?_); rintro e w3 ⟨rfl, g3, rfl⟩) | (go_at_call 25; (with_reducible refine (HEi.out _ (HGr.out.more _) (hNm.out _)).mono ?_); rintro e w4 ⟨rfl, g4, rfl⟩))
          go_ret3
          exact ⟨⟨.slice none 0 0, by rw [HBd.out]; rfl, by rw [HBd.out]; exact reads_nil _ _⟩, more_of_below (HW0.out.trans ((H.out.bel.trans (below_more (Below.refl _ _) H.out.hs _)).mono HW0.out.size))⟩
theorem Words_any (s : ByteArray) (w : World) (hmax : s.size < 4294967281) (hg : Ga w) :
    Calls Tryz.prog 9 #[.string s] w fun e w' => As.WRet s.data.toList w' e ∧ ∃ g, w' = more w g := by
  by_cases h : 65536 < s.data.toList.count 10
  · exact Words_many s w h
  · exact Words_few s w (by omega) (by omega) hg
end Go.Proofs.YtcckbmmjklahfaaGreatDoor
