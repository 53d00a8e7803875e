/- The walk of token's token. Conditions: the text is not empty; the lexer's record lies in the world; the library's variables are as they were laid. -/
import Derived.Test.YtcoakhahjdnlfaaDoorTokK
import Derived.Test.YtcoakhahjdnlfaaDoorTokM
import Derived.Test.YtcoakhahjdnlfaaDoorLt2W
namespace Go.Proofs.YtcoakhahjdnlfaaDoor
set_option linter.all false
open Go.RowKit
namespace Tk
theorem tokF_at (s : ByteArray) (h : 0 < s.size) : tokF s.data.toList = if letter s[0] = true then wordT s.data.toList else if digit s[0] = true then numT s.data.toList else if s[0] = 34 then textT (s.data.toList.drop 1) else signT s.data.toList := by
  have h0 := drop_at s 0 h
  simp only [List.drop_zero, Nat.zero_add] at h0
  rw [h0]
  simp only [tokF, List.drop_succ_cons, List.drop_zero]
theorem wres_ret (s : ByteArray) (n : Nat) (hT : (s.data.toList.takeWhile inside).length = n) : TokRet (wordT s.data.toList) 0 0 (.returned (.tuple #[tv (wres (s.extract 0 n)).1 (wres (s.extract 0 n)).2.1 0 0, .int .i64 (n : Int), .int .i64 (wres (s.extract 0 n)).2.2])) := by
  have hw := wordT_at s (i := 0) (k := n) (by simpa using hT)
  simp only [List.drop_zero, Nat.sub_zero] at hw
  rw [hw]
  have hn2 : n ≤ s.size := by have := take_len inside s.data.toList; simp at this; omega
  have hz := extract_size s n hn2
  unfold wres
  rw [hz]
  by_cases hk : (s.extract 0 n).data.toList ∈ keys
  · rw [if_pos hk, if_pos hk]; exact ⟨_, rfl, rfl⟩
  · rw [if_neg hk, if_neg hk]
    by_cases hl : 24 < n
    · rw [if_pos hl, if_pos hl]; exact ⟨_, _, _, _, _, rfl⟩
    · rw [if_neg hl, if_neg hl]; exact ⟨_, rfl, rfl⟩
theorem ret_form {R : Tk.R} {a : Int} {off : Nat} {e : Ending} (h : TokRet R a off e) : ∃ f t n a' m c, e = .returned (.tuple #[.agg #[.int .i64 f, .string t, .int .i64 n, .int .i64 a'], .int .i64 m, .int .i64 c]) := by
  unfold TokRet at h
  split at h
  · obtain ⟨t, _, rfl⟩ := h; exact ⟨_, _, _, _, _, _, rfl⟩
  · obtain ⟨f, t, n, a', m, rfl⟩ := h; exact ⟨_, _, _, _, _, _, rfl⟩
end Tk
set_option maxRecDepth 100000 in
set_option maxHeartbeats 2000000 in
theorem token_word (s : ByteArray) (x b1 b2 b3 b4 m : Nat) (w : World) (hs : s.size < 4294967281) (hL : Tk.Lx w x b1 b2 b3 b4 m) (h1 : 0 < s.size) (hc : Tk.letter s[0] = true) :
    Calls Tryd.prog 23 #[.pointer (some ⟨x, 0, none⟩), .string s] w fun e w' => Tk.TokRet (Tk.wordT s.data.toList) 0 0 e ∧ ∃ g, w' = more w g := by
  have h256 : s[0].toNat < 256 := UInt8.toNat_lt _
  have x0 := hL.x0
  have c1 := hL.c1
  have c2 := hL.c2
  have t1 := hL.t1.2 s[0]
  have tb := hL.t1.1
  rw [hc] at t1
  obtain ⟨n, hT⟩ : ∃ n, (s.data.toList.takeWhile Tk.inside).length = n := ⟨_, rfl⟩
  have hn2 : n ≤ s.size := by have := Tk.take_len Tk.inside s.data.toList; simp at this; omega
  have HT := Lib.hid (fun W => run_at (w := W) (b := b2) hT hs)
  have HT2 := Lib.hid hL.t2
  have HL := Lib.hid hL
  have HR := Lib.hid (Tk.wres_ret s n hT)
  have hDs := Tk.extract_size s n hn2
  generalize hD : s.extract 0 n = D at *
  obtain ⟨u, hu⟩ : ∃ u, Tk.wres D = u := ⟨_, rfl⟩
  have HW := Lib.hid (fun W (hL : Tk.Lx W x b1 b2 b3 b4 m) => word_any D x b1 b2 b3 b4 m W (by omega) hL)
  rw [hu] at HW HR
  obtain ⟨f, t, c⟩ := u
  simp only [Tk.tv] at HW
  clear hL hc hT hu
  go_enter Tryd.func23, Tryd.ntmps23
  go_wp2_with (first | (go_at_call 41; (with_reducible refine (HT.out _ ?_).mono ?_); (focus (exact HT2.out.keep (B := w.heap.size) (by repeat' (first | (with_reducible exact Below.refl _ _) | (with_reducible assumption) | (with_reducible refine below_more ?_ ?_ _) | (with_reducible refine below_drewN ?_ _) | (with_reducible refine Below.drew ?_) | (with_reducible refine Below.alloc ?_ ?_ _) | (with_reducible refine Below.setCell ?_ ?_ _) | go_size | (simp [more_size]; done) | (simp [more_size]; omega))) HT2.out.1)); rintro e w' ⟨rfl, g, rfl⟩) | (go_at_call 42; (with_reducible refine (HW.out _ ?_).mono ?_); (focus (exact HL.out.below (by repeat' (first | (with_reducible exact Below.refl _ _) | (with_reducible assumption) | (with_reducible refine below_more ?_ ?_ _) | (with_reducible refine below_drewN ?_ _) | (with_reducible refine Below.drew ?_) | (with_reducible refine Below.alloc ?_ ?_ _) | (with_reducible refine Below.setCell ?_ ?_ _) | go_size | (simp [more_size]; done) | (simp [more_size]; omega))))); rintro e w' ⟨rfl, g, rfl⟩))
  go_returns
  exact ⟨HR.out, more_of_below (by repeat' (first | (with_reducible exact Below.refl _ _) | (with_reducible assumption) | (with_reducible refine below_more ?_ ?_ _) | (with_reducible refine below_drewN ?_ _) | (with_reducible refine Below.drew ?_) | (with_reducible refine Below.alloc ?_ ?_ _) | (with_reducible refine Below.setCell ?_ ?_ _) | go_size | (simp [more_size]; done) | (simp [more_size]; omega)))⟩
set_option maxRecDepth 100000 in
set_option maxHeartbeats 2000000 in
theorem token_number (s : ByteArray) (x b1 b2 b3 b4 m : Nat) (w : World) (hs : s.size < 4294967281) (hL : Tk.Lx w x b1 b2 b3 b4 m) (hg : Gs w) (h1 : 0 < s.size) (hc : Tk.letter s[0] = false) (hd : Tk.digit s[0] = true) :
    Calls Tryd.prog 23 #[.pointer (some ⟨x, 0, none⟩), .string s] w fun e w' => Tk.TokRet (Tk.numT s.data.toList) 0 0 e ∧ ∃ g, w' = more w g := by
  have h256 : s[0].toNat < 256 := UInt8.toNat_lt _
  have x0 := hL.x0
  have c1 := hL.c1
  have c3 := hL.c3
  have t1 := hL.t1.2 s[0]
  have tb := hL.t1.1
  have t3 := hL.t3.2 s[0]
  have tb3 := hL.t3.1
  rw [hc] at t1
  rw [hd] at t3
  have HW := Lib.hid (fun W (hL : Tk.Lx W x b1 b2 b3 b4 m) (hg : Gs W) => number_any s x b1 b2 b3 b4 m W hs hL hg _ rfl h1 hd)
  have HL := Lib.hid hL
  have HG := Lib.hid hg
  clear hL hc hd hg
  go_enter Tryd.func23, Tryd.ntmps23
  go_wp2_with (go_at_call 43; (with_reducible refine (HW.out _ ?_ ?_).mono ?_); (focus (exact HL.out.below (by repeat' (first | (with_reducible exact Below.refl _ _) | (with_reducible assumption) | (with_reducible refine below_more ?_ ?_ _) | (with_reducible refine below_drewN ?_ _) | (with_reducible refine Below.drew ?_) | (with_reducible refine Below.alloc ?_ ?_ _) | (with_reducible refine Below.setCell ?_ ?_ _) | go_size | (simp [more_size]; done) | (simp [more_size]; omega))))); (focus (exact HG.out.below (by repeat' (first | (with_reducible exact Below.refl _ _) | (with_reducible assumption) | (with_reducible refine below_more ?_ ?_ _) | (with_reducible refine below_drewN ?_ _) | (with_reducible refine Below.drew ?_) | (with_reducible refine Below.alloc ?_ ?_ _) | (with_reducible refine Below.setCell ?_ ?_ _) | go_size | (simp [more_size]; done) | (simp [more_size]; omega))))); rintro e w' ⟨hret, g, rfl⟩; obtain ⟨f, t, n, a', m, c, rfl⟩ := Tk.ret_form hret)
  go_returns
  exact ⟨hret, more_of_below (by repeat' (first | (with_reducible exact Below.refl _ _) | (with_reducible assumption) | (with_reducible refine below_more ?_ ?_ _) | (with_reducible refine below_drewN ?_ _) | (with_reducible refine Below.drew ?_) | (with_reducible refine Below.alloc ?_ ?_ _) | (with_reducible refine Below.setCell ?_ ?_ _) | go_size | (simp [more_size]; done) | (simp [more_size]; omega)))⟩
set_option maxRecDepth 100000 in
set_option maxHeartbeats 2000000 in
theorem token_text (s : ByteArray) (x b1 b2 b3 b4 m : Nat) (w : World) (hs : s.size < 4294967281) (hL : Tk.Lx w x b1 b2 b3 b4 m) (h1 : 0 < s.size) (hc : Tk.letter s[0] = false) (hd : Tk.digit s[0] = false) (hq : s[0] = 34) :
    Calls Tryd.prog 23 #[.pointer (some ⟨x, 0, none⟩), .string s] w fun e w' => Tk.TokRet (Tk.textT (s.data.toList.drop 1)) 0 0 e ∧ ∃ g, w' = more w g := by
  have h256 : s[0].toNat < 256 := UInt8.toNat_lt _
  have x0 := hL.x0
  have c1 := hL.c1
  have c3 := hL.c3
  have t1 := hL.t1.2 s[0]
  have tb := hL.t1.1
  have t3 := hL.t3.2 s[0]
  have tb3 := hL.t3.1
  rw [hc] at t1
  rw [hd] at t3
  have HW := Lib.hid (fun W => text_any s W hs h1 _ rfl)
  have e34 : ((s[0].toNat : Int) == 34) = true := by rw [hq]; rfl
  clear hL hc hd hq
  go_enter Tryd.func23, Tryd.ntmps23
  go_wp2_with (go_at_call 44; (with_reducible refine (HW.out _).mono ?_); rintro e w' ⟨hret, g, rfl⟩; obtain ⟨f, t, n, a', m, c, rfl⟩ := Tk.ret_form hret)
  go_returns
  exact ⟨hret, more_of_below (by repeat' (first | (with_reducible exact Below.refl _ _) | (with_reducible assumption) | (with_reducible refine below_more ?_ ?_ _) | (with_reducible refine below_drewN ?_ _) | (with_reducible refine Below.drew ?_) | (with_reducible refine Below.alloc ?_ ?_ _) | (with_reducible refine Below.setCell ?_ ?_ _) | go_size | (simp [more_size]; done) | (simp [more_size]; omega)))⟩
set_option maxRecDepth 100000 in
set_option maxHeartbeats 2000000 in
theorem token_sign (s : ByteArray) (x b1 b2 b3 b4 m : Nat) (w : World) (hs : s.size < 4294967281) (hL : Tk.Lx w x b1 b2 b3 b4 m) (hg : Gs w) (h1 : 0 < s.size) (hc : Tk.letter s[0] = false) (hd : Tk.digit s[0] = false) (hq : ¬ s[0] = 34) (R : Tk.R) (hR : Tk.signT s.data.toList = R) :
    Calls Tryd.prog 23 #[.pointer (some ⟨x, 0, none⟩), .string s] w fun e w' => Tk.TokRet R 0 0 e ∧ ∃ g, w' = more w g := by
  have h256 : s[0].toNat < 256 := UInt8.toNat_lt _
  have x0 := hL.x0
  have c1 := hL.c1
  have c3 := hL.c3
  have t1 := hL.t1.2 s[0]
  have tb := hL.t1.1
  have t3 := hL.t3.2 s[0]
  have tb3 := hL.t3.1
  rw [hc] at t1
  rw [hd] at t3
  have hq' : ¬ s[0].toNat = 34 := fun h => hq (by rw [← UInt8.toNat_inj]; exact h)
  have e34 : ((s[0].toNat : Int) == 34) = false := by simp; omega
  have HG := Lib.hid hg
  have HV := Lib.hid (hR.symm.trans (Tk.sign_find s.data.toList))
  have hlen := Tk.sgs_len
  clear hL hc hd hq hg hq' hR
  go_enter Tryd.func23, Tryd.ntmps23
  go_wp2_with (go_at_call 45; refine (signs_any _ (HG.out.below (by repeat' (first | (with_reducible exact Below.refl _ _) | (with_reducible assumption) | (with_reducible refine below_more ?_ ?_ _) | (with_reducible refine below_drewN ?_ _) | (with_reducible refine Below.drew ?_) | (with_reducible refine Below.alloc ?_ ?_ _) | (with_reducible refine Below.setCell ?_ ?_ _) | go_size | (simp [more_size]; done) | (simp [more_size]; omega))))).mono ?_; rintro e w' ⟨rfl, rfl⟩)
  have HC := Lib.hid (strCells_at Tk.sgs)
  generalize strCells Tk.sgs = SC at *
  go_loop [66] (fun i => ∃ k : Nat, k ≤ 26 ∧ i = .int .i64 k ∧ Hid ((Tk.sgs.drop k).find? (Tk.beg s.data.toList) = Tk.sgs.find? (Tk.beg s.data.toList))) (fun i => 26 - (intOf i).toNat)
  case atStart => exact ⟨0, by omega, rfl, Lib.hid rfl⟩
  case round =>
    obtain ⟨k, hk, rfl, H⟩ := hrel
    by_cases hlt : k < 26
    · have ck := HC.out k (by omega)
      have HD := Lib.hid (List.drop_eq_getElem_cons (l := Tk.sgs) (i := k) (by omega))
      generalize Tk.sgs[k] = sg at *
      cases hb : Tk.beg s.data.toList sg
      · have HP := Lib.hid (hp_beg hb)
        have HN := Lib.hid (show (Tk.sgs.drop (k + 1)).find? (Tk.beg s.data.toList) = Tk.sgs.find? (Tk.beg s.data.toList) by rw [← H.out, HD.out, List.find?_cons, hb])
        clear H HD hb
        go_wp2_with (go_at_call 21; (with_reducible refine (HP.out _).mono ?_); rintro e w' ⟨rfl, rfl⟩)
        refine ⟨⟨k + 1, by omega, by simp, HN⟩, by simp [intOf]; omega⟩
      · have HP := Lib.hid (hp_beg hb)
        have HN := Lib.hid (show R = .ok (6, sg, 0, sg.length) by rw [HV.out, ← H.out, HD.out, List.find?_cons, hb])
        clear H HD hb HV
        go_wp2_with (go_at_call 21; (with_reducible refine (HP.out _).mono ?_); rintro e w' ⟨rfl, rfl⟩)
        go_returns
        refine ⟨?_, more_of_below (by repeat' (first | (with_reducible exact Below.refl _ _) | (with_reducible assumption) | (with_reducible refine below_more ?_ ?_ _) | (with_reducible refine below_drewN ?_ _) | (with_reducible refine Below.drew ?_) | (with_reducible refine Below.alloc ?_ ?_ _) | (with_reducible refine Below.setCell ?_ ?_ _) | go_size | (simp [more_size]; done) | (simp [more_size]; omega)))⟩
        rw [HN.out]
        exact ⟨⟨sg.toArray⟩, rfl, rfl⟩
    · have hke : k = 26 := by omega
      subst hke
      have HN := Lib.hid (show R = .error 90 by rw [HV.out, ← H.out, List.drop_eq_nil_of_le (by omega)]; rfl)
      clear H HV
      go_wp2
      go_returns
      refine ⟨?_, more_of_below (by repeat' (first | (with_reducible exact Below.refl _ _) | (with_reducible assumption) | (with_reducible refine below_more ?_ ?_ _) | (with_reducible refine below_drewN ?_ _) | (with_reducible refine Below.drew ?_) | (with_reducible refine Below.alloc ?_ ?_ _) | (with_reducible refine Below.setCell ?_ ?_ _) | go_size | (simp [more_size]; done) | (simp [more_size]; omega)))⟩
      rw [HN.out]
      exact ⟨_, _, _, _, _, rfl⟩
set_option maxRecDepth 100000 in
theorem token_any (s : ByteArray) (x b1 b2 b3 b4 m : Nat) (w : World) (hs : s.size < 4294967281) (hL : Tk.Lx w x b1 b2 b3 b4 m) (hg : Gs w) (h1 : 0 < s.size) (R : Tk.R) (hR : Tk.tokF s.data.toList = R) :
    Calls Tryd.prog 23 #[.pointer (some ⟨x, 0, none⟩), .string s] w fun e w' => Tk.TokRet R 0 0 e ∧ ∃ g, w' = more w g := by
  subst hR
  rw [Tk.tokF_at s h1]
  cases hc : Tk.letter s[0]
  · rw [if_neg (by simp)]
    cases hd : Tk.digit s[0]
    · rw [if_neg (by simp)]
      by_cases hq : s[0] = 34
      · rw [if_pos hq]; exact token_text s x b1 b2 b3 b4 m w hs hL h1 hc hd hq
      · rw [if_neg hq]; exact token_sign s x b1 b2 b3 b4 m w hs hL hg h1 hc hd hq _ rfl
    · rw [if_pos rfl]; exact token_number s x b1 b2 b3 b4 m w hs hL hg h1 hc hd
  · rw [if_pos rfl]; exact token_word s x b1 b2 b3 b4 m w hs hL h1 hc
end Go.Proofs.YtcoakhahjdnlfaaDoor
