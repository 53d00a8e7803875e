/- The walk of the law TokenSpread. Conditions: the library's variables are as they were laid; the texts are no longer than a text may be. -/
import Derived.Test.YtcoakhahjdnlfaaDoorLwTc
import Derived.Test.YtcoakhahjdnlfaaDoorTokI
namespace Go.Proofs.YtcoakhahjdnlfaaDoor
set_option linter.all false
open Go.RowKit
namespace Tk
def sprC : List UInt8 := [40, 42, 32, 120, 32, 40, 42, 32, 42, 41, 32, 34, 32, 42, 41]
def sprT : List UInt8 := [32, 40, 42, 42, 42, 41]
theorem sprT_lex (p k : Nat) : lexF sprT p k = .ok [] := by
  unfold sprT
  rw [lexF_blank p k (by decide), lexF_cmt (n := 5) (p + 1) k (by decide) (by decide) (by decide)]
  exact lexF_nil _ _
theorem sprT_brk : brk sprT := blank_brk _ (by decide)
/-- the places of tokens -/
def ats (r : List Tok) : List Nat := r.map fun t => t.2.2.2.toNat
theorem spreads {s b : ByteArray} (hb : ∀ c ∈ b.data.toList, blank c = true) {r : List Tok} (h : lexF s.data.toList 0 0 = .ok r) {T : ByteArray} (hT : T.data.toList = build (b.data.toList ++ sprC) s.data.toList 0 (ats r) ++ sprT) (hsz : T.size ≤ 16384) :
    ∃ r', lexR T = .ok r' ∧ r.map (fun t => (t.1, t.2.1, t.2.2.1, (0 : Int))) = r'.map (fun t => (t.1, t.2.1, t.2.2.1, (0 : Int))) := by
  have h1 := build_spread (b.data.toList ++ sprC) s.data.toList s.data.toList 0 0 0 r rfl (Nat.le_refl _) h
  simp only [Nat.sub_self, List.take_zero, List.nil_append] at h1
  obtain ⟨r', h2, h3⟩ := spread_lex b.data.toList sprC sprT hb (by decide) ⟨_, rfl⟩ sprT_brk sprT_lex s.data.toList 0 0 0 r h
  refine ⟨r', ?_, ?_⟩
  · unfold lexR
    rw [if_neg (by omega), hT]
    unfold ats
    rw [h1]
    exact h2
  · have := congrArg (List.map fun x : Int × List UInt8 × Int => (x.1, x.2.1, x.2.2, (0 : Int))) h3
    simp only [List.map_map] at this
    exact this.symm
theorem build_next (I l : List UInt8) (last a : Nat) (q : List Nat) : build I l last (a :: q) = (l.drop last).take (a - last) ++ (I ++ build I l a q) := rfl
end Tk
set_option maxRecDepth 100000 in
set_option maxHeartbeats 6400000 in
theorem TokenSpread_in (s b : ByteArray) (w : World) (hg : Gs w) (h1 : s.size ≤ 800) (h2 : b.size ≤ 6) :
    Calls Tryd.prog 5 #[.string s, .string b] w fun e w' => e = .returned (.bool true) ∧ Below w.heap.size w w' := by
  have HG := Lib.hid hg
  clear hg
  have h1' : (s.size : Int) ≤ 800 := by omega
  have h2' : (b.size : Int) ≤ 6 := by omega
  go_enter Tryd.func5, Tryd.ntmps5
  go_wp2
  go_loop [5] (fun i => ∃ k : Nat, k ≤ b.size ∧ i = .int .i64 k ∧ Hid (∀ c ∈ b.data.toList.take k, Tk.blank c = true)) (fun i => b.size - (intOf i).toNat)
  case atStart => exact ⟨0, by omega, rfl, Lib.hid (by simp)⟩
  case round =>
    obtain ⟨k, hk, rfl, H⟩ := hrel
    by_cases hlt : k < b.size
    · have HN := Lib.hid (fun (hx : Tk.blank b[k] = true) => (show ∀ c ∈ b.data.toList.take (k + 1), Tk.blank c = true by
        intro c hc
        rw [List.take_succ, List.getElem?_eq_getElem (by simpa using hlt)] at hc
        rcases List.mem_append.1 hc with hc | hc
        · exact H.out c hc
        · simp at hc; rw [hc]; exact hx))
      clear H
      generalize hc : b[k] = c at *
      have h256 : c.toNat < 256 := c.toNat_lt
      cases hbl : Tk.blank c
      · obtain ⟨n9, n10, n13, n32⟩ := Tk.blank_no hbl
        have b9 : ((c.toNat : Int) != 9) = true := by simp; omega
        have b10 : ((c.toNat : Int) != 10) = true := by simp; omega
        have b13 : ((c.toNat : Int) != 13) = true := by simp; omega
        have b32 : ((c.toNat : Int) != 32) = true := by simp; omega
        clear n9 n10 n13 n32 hbl HN
        go_wp2_with (go_at_call 10; (with_reducible refine (wakes9_any _ ?_).mono ?_); (focus (exact HG.out.below (by repeat' (first | (with_reducible exact Below.refl _ _) | (with_reducible assumption) | (with_reducible refine below_more ?_ ?_ _) | (with_reducible refine below_drewN ?_ _) | (with_reducible refine Below.drew ?_) | (with_reducible refine Below.alloc ?_ ?_ _) | (with_reducible refine Below.setCell ?_ ?_ _) | go_size | (simp [more_size]; done) | (simp [more_size]; omega))))); rintro e w2 ⟨rfl, g, rfl⟩)
        go_ret
        exact ⟨rfl, (by repeat' (first | (with_reducible exact Below.refl _ _) | (with_reducible assumption) | (with_reducible refine below_more ?_ ?_ _) | (with_reducible refine below_drewN ?_ _) | (with_reducible refine Below.drew ?_) | (with_reducible refine Below.alloc ?_ ?_ _) | (with_reducible refine Below.setCell ?_ ?_ _) | go_size | (simp [more_size]; done) | (simp [more_size]; omega)))⟩
      · have HN := Lib.hid (HN.out hbl)
        have hor := (Tk.blank_iff c).1 hbl
        clear hbl
        rcases hor with h | h | h | h
        · have b9 : ((c.toNat : Int) != 9) = false := by simp; omega
          go_wp2
          refine ⟨⟨k + 1, by omega, by simp, HN⟩, by simp [intOf]; omega⟩
        · have b9 : ((c.toNat : Int) != 9) = true := by simp; omega
          have b10 : ((c.toNat : Int) != 10) = false := by simp; omega
          go_wp2
          refine ⟨⟨k + 1, by omega, by simp, HN⟩, by simp [intOf]; omega⟩
        · have b9 : ((c.toNat : Int) != 9) = true := by simp; omega
          have b10 : ((c.toNat : Int) != 10) = true := by simp; omega
          have b13 : ((c.toNat : Int) != 13) = false := by simp; omega
          go_wp2
          refine ⟨⟨k + 1, by omega, by simp, HN⟩, by simp [intOf]; omega⟩
        · have b9 : ((c.toNat : Int) != 9) = true := by simp; omega
          have b10 : ((c.toNat : Int) != 10) = true := by simp; omega
          have b13 : ((c.toNat : Int) != 13) = true := by simp; omega
          have b32 : ((c.toNat : Int) != 32) = false := by simp; omega
          go_wp2
          refine ⟨⟨k + 1, by omega, by simp, HN⟩, by simp [intOf]; omega⟩
    · have hke : k = b.size := by omega
      subst hke
      have HBl := Lib.hid (show ∀ c ∈ b.data.toList, Tk.blank c = true by
        have := H.out
        rwa [List.take_of_length_le (by simp)] at this)
      clear H
      cases hR : Tk.lexR s with
      | error x =>
        obtain ⟨q, ec⟩ := x
        have he := Tk.lexR_ne (by omega) hR
        have e1 : (ec != 0) = true := by simp [he.1]
        have e2 : (q : Int) < (s.size : Int) := by have := he.2; omega
        have HA := Lib.hid (fun W hg => lex_no hR (by omega) W hg)
        clear hR he
        go_wp2_with (first
          | (go_at_call 11; (with_reducible refine (HA.out _ ?_).mono ?_); (focus (exact HG.out.below (by repeat' (first | (with_reducible exact Below.refl _ _) | (with_reducible assumption) | (with_reducible refine below_more ?_ ?_ _) | (with_reducible refine below_drewN ?_ _) | (with_reducible refine Below.drew ?_) | (with_reducible refine Below.alloc ?_ ?_ _) | (with_reducible refine Below.setCell ?_ ?_ _) | go_size | (simp [more_size]; done) | (simp [more_size]; omega))))); rintro e w2 ⟨rfl, g, rfl⟩)
          | (go_at_call 10; (with_reducible refine (wakes9_any _ ?_).mono ?_); (focus (exact HG.out.below (by repeat' (first | (with_reducible exact Below.refl _ _) | (with_reducible assumption) | (with_reducible refine below_more ?_ ?_ _) | (with_reducible refine below_drewN ?_ _) | (with_reducible refine Below.drew ?_) | (with_reducible refine Below.alloc ?_ ?_ _) | (with_reducible refine Below.setCell ?_ ?_ _) | go_size | (simp [more_size]; done) | (simp [more_size]; omega))))); rintro e w2 ⟨rfl, g, rfl⟩))
        go_ret
        exact ⟨rfl, (by repeat' (first | (with_reducible exact Below.refl _ _) | (with_reducible assumption) | (with_reducible refine below_more ?_ ?_ _) | (with_reducible refine below_drewN ?_ _) | (with_reducible refine Below.drew ?_) | (with_reducible refine Below.alloc ?_ ?_ _) | (with_reducible refine Below.setCell ?_ ?_ _) | go_size | (simp [more_size]; done) | (simp [more_size]; omega)))⟩
      | ok r =>
        have HA := Lib.hid (fun W hg => lex_ok hR (by omega) W hg)
        rw [Tk.lexR_small (by omega)] at hR
        have hats := Tk.lex_ats _ _ _ _ hR
        have hsl : s.data.toList.length = s.size := by simp
        rw [hsl] at hats
        have HSP := Lib.hid (fun (T : ByteArray) (hT : T.data.toList = _) (hsz : T.size ≤ 16384) => Tk.spreads HBl.out hR hT hsz)
        have HAT := Lib.hid hats.2.1
        have HPW := Lib.hid hats.1
        have hrl := hats.2.2
        clear hR hats hsl HBl
        go_wp2_with (go_at_call 11; (with_reducible refine (HA.out _ ?_).mono ?_); (focus (exact HG.out.below (by repeat' (first | (with_reducible exact Below.refl _ _) | (with_reducible assumption) | (with_reducible refine below_more ?_ ?_ _) | (with_reducible refine below_drewN ?_ _) | (with_reducible refine Below.drew ?_) | (with_reducible refine Below.alloc ?_ ?_ _) | (with_reducible refine Below.setCell ?_ ?_ _) | go_size | (simp [more_size]; done) | (simp [more_size]; omega))))); rintro e w2 ⟨⟨v1, rfl, HR1⟩, hm1⟩; have hb2 : Below w.heap.size w w2 := (by obtain ⟨g, rfl⟩ := hm1; exact (by repeat' (first | (with_reducible exact Below.refl _ _) | (with_reducible assumption) | (with_reducible refine below_more ?_ ?_ _) | (with_reducible refine below_drewN ?_ _) | (with_reducible refine Below.drew ?_) | (with_reducible refine Below.alloc ?_ ?_ _) | (with_reducible refine Below.setCell ?_ ?_ _) | go_size | (simp [more_size]; done) | (simp [more_size]; omega)))); replace hm1 := Lib.hid hm1; replace hb2 := Lib.hid hb2; obtain ⟨va, vcap, rfl, hvc, hvm⟩ := owns_form HR1.out.2.2)
        have r1 := HR1.out.1
        have hvl : vcap ≤ 9223372036854775807 := by unfold maxLen at hvm; omega
        have HCELL : ∀ k (h : k < r.length), ∃ bb off, va = some ⟨bb, off, none⟩ ∧ bb < w2.heap.size ∧ w2.cell? ⟨bb, off + k * 4 + 3, none⟩ = some (.int .i64 r[k].2.2.2) := by
          intro k h
          rcases r1.2 with ⟨h0, -⟩ | ⟨bb, off, cap, he, hnc, hcm, hbl, hc⟩
          · omega
          · simp only [Value.slice.injEq] at he
            obtain ⟨rfl, -, -⟩ := he
            have := hc _ _ (Tk.tokCells_at r k h).2.2.2
            exact ⟨bb, off, rfl, hbl, by rwa [← Nat.add_assoc] at this⟩
        replace HCELL := Lib.hid HCELL
        replace r1 := Lib.hid r1
        have HG2 := Lib.hid (HG.out.below hb2.out)
        clear hm1 HR1 hvm
        go_wp2
        go_loop [9, 10, 11] (fun st sl si => ∃ (k : Nat) (T : ByteArray) (last : Nat), k ≤ r.length ∧ si = .int .i64 k ∧ st = .string T ∧ sl = .int .i64 last ∧ last ≤ s.size ∧ T.size ≤ last + 21 * k ∧ Hid ((∀ a ∈ (Tk.ats r).drop k, last ≤ a) ∧ T.data.toList ++ Tk.build (b.data.toList ++ Tk.sprC) s.data.toList last ((Tk.ats r).drop k) = Tk.build (b.data.toList ++ Tk.sprC) s.data.toList 0 (Tk.ats r))) (fun _ _ si => r.length - (intOf si).toNat)
        case atStart => exact ⟨0, ⟨#[]⟩, 0, by omega, rfl, rfl, rfl, by omega, by decide, Lib.hid ⟨by simp, by simp⟩⟩
        case round =>
          obtain ⟨k, T, last, hk, rfl, rfl, rfl, hl, hTs, H⟩ := hrel
          by_cases hlt : k < r.length
          · obtain ⟨bb, off, hva, hbl, hc⟩ := HCELL.out k hlt
            have hat := HAT.out r[k] (List.getElem_mem hlt)
            have hlen : (Tk.ats r).length = r.length := by simp [Tk.ats]
            have hdrop : (Tk.ats r).drop k = r[k].2.2.2.toNat :: (Tk.ats r).drop (k + 1) := by
              rw [List.drop_eq_getElem_cons (by omega)]
              congr 1
              simp [Tk.ats]
            have hpw : ∀ a ∈ (Tk.ats r).drop (k + 1), r[k].2.2.2.toNat ≤ a := by
              have h3 : ((Tk.ats r).drop k).Pairwise (· ≤ ·) := List.Pairwise.sublist (List.drop_sublist _ _) HPW.out
              rw [hdrop, List.pairwise_cons] at h3
              exact h3.1
            have hla : last ≤ r[k].2.2.2.toNat := H.out.1 _ (by rw [hdrop]; simp)
            generalize r[k].2.2.2 = x at *
            obtain ⟨a, rfl⟩ : ∃ a : Nat, x = (a : Int) := ⟨x.toNat, by omega⟩
            simp only [Int.toNat_natCast] at hla hdrop hpw hat
            have has : a < s.size := by omega
            have HN := Lib.hid (show (∀ a' ∈ (Tk.ats r).drop (k + 1), a ≤ a') ∧ (T ++ (s.extract last a ++ b ++ (⟨#[40, 42, 32, 120, 32, 40, 42, 32, 42, 41, 32, 34, 32, 42, 41]⟩ : ByteArray))).data.toList ++ Tk.build (b.data.toList ++ Tk.sprC) s.data.toList a ((Tk.ats r).drop (k + 1)) = Tk.build (b.data.toList ++ Tk.sprC) s.data.toList 0 (Tk.ats r) from ⟨hpw, by
              rw [← H.out.2, hdrop, Tk.build_next, ← Tk.extract_list]
              simp [ByteArray.data_append, Tk.sprC]⟩)
            have hez : (s.extract last a).size = a - last := by simp; omega
            have hts2 : (T ++ (s.extract last a ++ b ++ (⟨#[40, 42, 32, 120, 32, 40, 42, 32, 42, 41, 32, 34, 32, 42, 41]⟩ : ByteArray))).size ≤ a + 21 * (k + 1) := by
              simp only [ByteArray.size_append, hez]
              have : (⟨#[40, 42, 32, 120, 32, 40, 42, 32, 42, 41, 32, 34, 32, 42, 41]⟩ : ByteArray).size = 15 := rfl
              omega
            subst hva
            clear H hat hlen hdrop hpw
            have hTb : T.size ≤ 20000 := by omega
            go_wp2
            refine ⟨⟨k + 1, _, a, by omega, by simp, rfl, rfl, by omega, hts2, HN⟩, by simp [intOf]; omega⟩
          · have hke : k = r.length := by omega
            have hT2 : (T ++ (s.extract last s.size ++ (⟨#[32, 40, 42, 42, 42, 41]⟩ : ByteArray))).data.toList = Tk.build (b.data.toList ++ Tk.sprC) s.data.toList 0 (Tk.ats r) ++ Tk.sprT := by
              rw [← H.out.2, List.drop_eq_nil_of_le (by simp [Tk.ats]; omega)]
              simp only [Tk.build]
              rw [← Tk.rest_list s last]
              simp [ByteArray.data_append, Tk.sprT]
            have hez := Tk.extract_rest_size s last
            have hTb : T.size ≤ 20000 := by omega
            have hz6 : (⟨#[32, 40, 42, 42, 42, 41]⟩ : ByteArray).size = 6 := rfl
            have hts2 : (T ++ (s.extract last s.size ++ (⟨#[32, 40, 42, 42, 42, 41]⟩ : ByteArray))).size = T.size + (s.size - last + 6) := by
              simp only [ByteArray.size_append, hez, hz6]
            clear H
            by_cases hbig : (T ++ (s.extract last s.size ++ (⟨#[32, 40, 42, 42, 42, 41]⟩ : ByteArray))).size ≤ 16384
            · obtain ⟨r', hR2, hkey⟩ := HSP.out _ hT2 hbig
              have HB := Lib.hid (fun W hg => lex_ok hR2 (by omega) W hg)
              have HK := Lib.hid (show r.map (Tk.keyT false) = r'.map (Tk.keyT false) from by have h9 : Tk.keyT false = fun t => (t.1, t.2.1, t.2.2.1, (0 : Int)) := rfl; rw [h9]; exact hkey)
              rw [hts2] at hbig
              have hbi : (T.size : Int) + (((s.size : Int) - (last : Int)) + 6) ≤ 16384 := by omega
              clear hT2 hR2 hkey hbig hts2 hke
              trace_state
              go_wp2_with (first
                | (go_at_call 11; (with_reducible refine (HB.out _ ?_).mono ?_); (focus (exact HG2.out.below (by repeat' (first | (with_reducible exact Below.refl _ _) | (with_reducible assumption) | (with_reducible refine below_more ?_ ?_ _) | (with_reducible refine below_drewN ?_ _) | (with_reducible refine Below.drew ?_) | (with_reducible refine Below.alloc ?_ ?_ _) | (with_reducible refine Below.setCell ?_ ?_ _) | go_size | (simp [more_size]; done) | (simp [more_size]; omega))))); rintro e w3 ⟨⟨v3, rfl, HR3⟩, hm3⟩; have hb3 : Below w2.heap.size w2 w3 := (by obtain ⟨g, rfl⟩ := hm3; exact (by repeat' (first | (with_reducible exact Below.refl _ _) | (with_reducible assumption) | (with_reducible refine below_more ?_ ?_ _) | (with_reducible refine below_drewN ?_ _) | (with_reducible refine Below.drew ?_) | (with_reducible refine Below.alloc ?_ ?_ _) | (with_reducible refine Below.setCell ?_ ?_ _) | go_size | (simp [more_size]; done) | (simp [more_size]; omega)))); replace hm3 := Lib.hid hm3; replace hb3 := Lib.hid hb3)
                | (go_at_call 13; (with_reducible refine (same_any _ _ r r' false _ ?_ ?_ ?_).mono ?_); (focus (exact r1.out.below hb3.out)); (focus (exact HR3.out.1)); (focus (exact HK.out)); rintro e w4 ⟨rfl, g, rfl⟩)
                | (go_at_call 10; (with_reducible refine (wakes9_any _ ?_).mono ?_); (focus (have q3 := hb3.out; exact HG2.out.below (q3.trans (Below.mono (by repeat' (first | (with_reducible exact Below.refl _ _) | (with_reducible assumption) | (with_reducible refine below_more ?_ ?_ _) | (with_reducible refine below_drewN ?_ _) | (with_reducible refine Below.drew ?_) | (with_reducible refine Below.alloc ?_ ?_ _) | (with_reducible refine Below.setCell ?_ ?_ _) | go_size | (simp [more_size]; done) | (simp [more_size]; omega))) q3.size)))); rintro e w5 ⟨rfl, g, rfl⟩))
              go_ret
              have q2 := hb2.out
              have q3 := hb3.out
              have q4 : Below w.heap.size w w3 := q2.trans (q3.mono q2.size)
              exact ⟨rfl, q4.trans (Below.mono (by repeat' (first | (with_reducible exact Below.refl _ _) | (with_reducible assumption) | (with_reducible refine below_more ?_ ?_ _) | (with_reducible refine below_drewN ?_ _) | (with_reducible refine Below.drew ?_) | (with_reducible refine Below.alloc ?_ ?_ _) | (with_reducible refine Below.setCell ?_ ?_ _) | go_size | (simp [more_size]; done) | (simp [more_size]; omega))) q4.size)⟩
            · rw [hts2] at hbig
              have hbi : (16384 : Int) < (T.size : Int) + (((s.size : Int) - (last : Int)) + 6) := by omega
              clear hT2 hbig hts2 hke
              go_wp2_with (go_at_call 10; (with_reducible refine (wakes9_any _ ?_).mono ?_); (focus (exact HG2.out.below (by repeat' (first | (with_reducible exact Below.refl _ _) | (with_reducible assumption) | (with_reducible refine below_more ?_ ?_ _) | (with_reducible refine below_drewN ?_ _) | (with_reducible refine Below.drew ?_) | (with_reducible refine Below.alloc ?_ ?_ _) | (with_reducible refine Below.setCell ?_ ?_ _) | go_size | (simp [more_size]; done) | (simp [more_size]; omega))))); rintro e w5 ⟨rfl, g, rfl⟩)
              go_ret
              have q2 := hb2.out
              exact ⟨rfl, q2.trans (Below.mono (by repeat' (first | (with_reducible exact Below.refl _ _) | (with_reducible assumption) | (with_reducible refine below_more ?_ ?_ _) | (with_reducible refine below_drewN ?_ _) | (with_reducible refine Below.drew ?_) | (with_reducible refine Below.alloc ?_ ?_ _) | (with_reducible refine Below.setCell ?_ ?_ _) | go_size | (simp [more_size]; done) | (simp [more_size]; omega))) q2.size)⟩
set_option maxRecDepth 100000 in
theorem TokenSpread_any (s b : ByteArray) (w : World) (hg : Gs w) (hs : s.size ≤ maxLen) (ht : b.size ≤ maxLen) :
    Calls Tryd.prog 5 #[.string s, .string b] w fun e w' => e = .returned (.bool true) ∧ Below w.heap.size w w' := by
  have hs2 : s.size ≤ 9223372036854775807 := by unfold maxLen at hs; omega
  have ht2 : b.size ≤ 9223372036854775807 := by unfold maxLen at ht; omega
  by_cases h1 : s.size ≤ 800
  · by_cases h2 : b.size ≤ 6
    · exact TokenSpread_in s b w hg h1 h2
    · have HG := Lib.hid hg
      have h1' : (s.size : Int) ≤ 800 := by omega
      have h2' : (6 : Int) < (b.size : Int) := by omega
      clear hg h1 h2
      go_enter Tryd.func5, Tryd.ntmps5
      go_wp2_with (go_at_call 10; (with_reducible refine (wakes9_any _ ?_).mono ?_); (focus (exact HG.out.below (by repeat' (first | (with_reducible exact Below.refl _ _) | (with_reducible assumption) | (with_reducible refine below_more ?_ ?_ _) | (with_reducible refine below_drewN ?_ _) | (with_reducible refine Below.drew ?_) | (with_reducible refine Below.alloc ?_ ?_ _) | (with_reducible refine Below.setCell ?_ ?_ _) | go_size | (simp [more_size]; done) | (simp [more_size]; omega))))); rintro e w2 ⟨rfl, g, rfl⟩)
      go_ret
      exact ⟨rfl, (by repeat' (first | (with_reducible exact Below.refl _ _) | (with_reducible assumption) | (with_reducible refine below_more ?_ ?_ _) | (with_reducible refine below_drewN ?_ _) | (with_reducible refine Below.drew ?_) | (with_reducible refine Below.alloc ?_ ?_ _) | (with_reducible refine Below.setCell ?_ ?_ _) | go_size | (simp [more_size]; done) | (simp [more_size]; omega)))⟩
  · have HG := Lib.hid hg
    have h1' : (800 : Int) < (s.size : Int) := by omega
    clear hg h1
    go_enter Tryd.func5, Tryd.ntmps5
    go_wp2_with (go_at_call 10; (with_reducible refine (wakes9_any _ ?_).mono ?_); (focus (exact HG.out.below (by repeat' (first | (with_reducible exact Below.refl _ _) | (with_reducible assumption) | (with_reducible refine below_more ?_ ?_ _) | (with_reducible refine below_drewN ?_ _) | (with_reducible refine Below.drew ?_) | (with_reducible refine Below.alloc ?_ ?_ _) | (with_reducible refine Below.setCell ?_ ?_ _) | go_size | (simp [more_size]; done) | (simp [more_size]; omega))))); rintro e w2 ⟨rfl, g, rfl⟩)
    go_ret
    exact ⟨rfl, (by repeat' (first | (with_reducible exact Below.refl _ _) | (with_reducible assumption) | (with_reducible refine below_more ?_ ?_ _) | (with_reducible refine below_drewN ?_ _) | (with_reducible refine Below.drew ?_) | (with_reducible refine Below.alloc ?_ ?_ _) | (with_reducible refine Below.setCell ?_ ?_ _) | go_size | (simp [more_size]; done) | (simp [more_size]; omega)))⟩
end Go.Proofs.YtcoakhahjdnlfaaDoor
