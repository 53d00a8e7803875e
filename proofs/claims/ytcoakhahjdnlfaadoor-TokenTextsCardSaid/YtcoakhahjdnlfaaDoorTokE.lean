/- The walk of the document's skip. Conditions: the text's size is bounded; the place lies in it. -/
import Derived.Test.YtcoakhahjdnlfaaDoorTokD
import Derived.Test.YtcoakhahjdnlfaaDoorTokJ
namespace Go.Proofs.YtcoakhahjdnlfaaDoor
set_option linter.all false
open Go.RowKit
namespace Tk
theorem opens_at (s : ByteArray) (k : Nat) (hk : k + 1 < s.size) : opens (s.data.toList.drop k) = true ↔ s.extract k (k + 2) = ⟨#[40, 42]⟩ := by
  rw [pair_eq s k hk, drop_at s k (by omega), drop_at s (k + 1) hk]
  simp [opens]
theorem opens_last (s : ByteArray) (k : Nat) (hk : ¬ k + 1 < s.size) : opens (s.data.toList.drop k) = false := by
  have : (s.data.toList.drop k).length ≤ 1 := by simp; omega
  match h : s.data.toList.drop k, this with
  | [], _ => rfl
  | [a], _ => simp [opens]
theorem blank_iff (c : UInt8) : blank c = true ↔ c.toNat = 9 ∨ c.toNat = 10 ∨ c.toNat = 13 ∨ c.toNat = 32 := by
  simp only [blank, Bool.or_eq_true, beq_iff_eq, ← UInt8.toNat_inj]
  simp [or_assoc]
theorem blank_no {c : UInt8} (h : blank c = false) : ¬ c.toNat = 9 ∧ ¬ c.toNat = 10 ∧ ¬ c.toNat = 13 ∧ ¬ c.toNat = 32 := by
  have := mt (blank_iff c).2 (by simp [h])
  omega
theorem opens_end {c : UInt8} {t : List UInt8} (h : blank c = false) (p k : Nat) (ho : opens (c :: t) = true) (hc : cmt (c :: t) 0 = none) : lexF (c :: t) p k = .error (p, 90) := lexF_cmt_none p k h ho hc
/-- a place where a token begins, or the text's end -/
def stop (s : ByteArray) (q : Nat) : Prop := q = s.size ∨ ∃ h : q < s.size, blank s[q] = false ∧ opens (s.data.toList.drop q) = false
/-- where skip comes to -/
def skips (s : ByteArray) (p q : Nat) (b : Bool) : Prop :=
  (∀ k, lexF (s.data.toList.drop p) p k = if b then lexF (s.data.toList.drop q) q k else .error (q, 90)) ∧ p ≤ q ∧ q ≤ s.size ∧ (b = true → stop s q)
def SkipRet (s : ByteArray) (p : Nat) (e : Ending) : Prop := ∃ (q : Nat) (b : Bool), e = .returned (.tuple #[.int .i64 q, .bool b]) ∧ skips s p q b
end Tk
set_option maxHeartbeats 2000000 in
theorem rskip_any (s : ByteArray) (p : Nat) (w : World) (hs : s.size < 4294967281) (hp : p ≤ s.size) :
    Calls Tryd.prog 24 #[.string s, .int .i64 p] w fun e w' => Tk.SkipRet s p e ∧ w' = w := by
  go_enter Tryd.func24, Tryd.ntmps24
  go_wp2
  go_loop [1] (fun i => ∃ (q : Nat), p ≤ q ∧ q ≤ s.size ∧ i = .int .i64 q ∧ Hid (∀ k, Tk.lexF (s.data.toList.drop p) p k = Tk.lexF (s.data.toList.drop q) q k)) (fun i => s.size - (intOf i).toNat)
  case atStart => exact ⟨p, by omega, by omega, rfl, Lib.hid (fun _ => rfl)⟩
  case round =>
    obtain ⟨q, hpq, hq, rfl, H⟩ := hrel
    by_cases hlt : q < s.size
    · have HD := Lib.hid (Tk.drop_at s q hlt)
      generalize hc : s[q] = c at *
      have hb : c.toNat < 256 := c.toNat_lt
      cases hbl : Tk.blank c
      · obtain ⟨n9, n10, n13, n32⟩ := Tk.blank_no hbl
        have b9 : ((c.toNat : Int) == 9) = false := by simp; omega
        have b10 : ((c.toNat : Int) == 10) = false := by simp; omega
        have b13 : ((c.toNat : Int) == 13) = false := by simp; omega
        have b32 : ((c.toNat : Int) == 32) = false := by simp; omega
        by_cases hl1 : q + 1 < s.size
        · by_cases h1 : s.extract q (q + 2) = ⟨#[40, 42]⟩
          · have HO := Lib.hid ((Tk.opens_at s q hl1).2 h1)
            cases hcm : Tk.cmt (s.data.toList.drop q) 0 with
            | none =>
              have hce := Tk.cend_none hcm
              have HR := Lib.hid (show Tk.skips s p q false from ⟨fun k => by rw [H.out k]; rw [HD.out] at hcm ⊢; exact Tk.lexF_cmt_none q k hbl (HD.out ▸ HO.out) hcm, hpq, hq, by simp⟩)
              clear hbl hcm H HO HD
              go_wp2_with (go_at_call 46; refine (rcomment_any s q _ hs hq).mono ?_; rw [hce]; rintro e w' ⟨rfl, rfl⟩)
              go_ret2
              exact ⟨⟨q, false, rfl, HR.out⟩, rfl⟩
            | some n =>
              have hce := Tk.cend_some hcm
              have hn := Tk.cmt_len _ _ _ hcm
              have hn2 : q + n ≤ s.size := by have := hn.2; simp at this; omega
              have HR := Lib.hid (show ∀ k, Tk.lexF (s.data.toList.drop p) p k = Tk.lexF (s.data.toList.drop (n + q)) (n + q) k from fun k => by
                rw [H.out k]
                have h1 := HO.out
                rw [HD.out] at hcm h1 ⊢
                rw [Tk.lexF_cmt q k hbl h1 hcm, ← HD.out, List.drop_drop, Nat.add_comm q n])
              have hn0 := hn.1
              clear hbl hcm H HO HD hn
              go_wp2_with (go_at_call 46; refine (rcomment_any s q _ hs hq).mono ?_; rw [hce]; rintro e w' ⟨rfl, rfl⟩)
              go_round
              case rel => exact ⟨n + q, by omega, by omega, by rw [Int.natCast_add], HR⟩
              case measure => simp [intOf]; omega
          · have hb1 : ((s.extract q (q + 2)).toList == [40, 42]) = false := ne_bytes h1
            have HR := Lib.hid (show Tk.skips s p q true from ⟨fun k => by rw [H.out k]; rfl, hpq, hq, fun _ => .inr ⟨hlt, by rw [hc]; exact hbl, by
              have := mt (Tk.opens_at s q hl1).1 h1
              simpa using this⟩⟩)
            clear hbl H HD
            go_wp2
            go_ret2
            first | exact ⟨⟨q, true, rfl, HR.out⟩, rfl⟩ | exact ⟨q, true, rfl, HR.out⟩
        · have HR := Lib.hid (show Tk.skips s p q true from ⟨fun k => by rw [H.out k]; rfl, hpq, hq, fun _ => .inr ⟨hlt, by rw [hc]; exact hbl, Tk.opens_last s q hl1⟩⟩)
          clear hbl H HD
          go_wp2
          go_ret2
          first | exact ⟨⟨q, true, rfl, HR.out⟩, rfl⟩ | exact ⟨q, true, rfl, HR.out⟩
      · have HR := Lib.hid (show ∀ k, Tk.lexF (s.data.toList.drop p) p k = Tk.lexF (s.data.toList.drop (q + 1)) (q + 1) k from fun k => by rw [H.out k, HD.out, Tk.lexF_blank q k hbl])
        have hor := (Tk.blank_iff c).1 hbl
        clear hbl H HD
        rcases hor with h | h | h | h
        · have b9 : ((c.toNat : Int) == 9) = true := by simp; omega
          go_wp2
          go_round
          case rel => exact ⟨q + 1, by omega, by omega, by go_num, HR⟩
          case measure => simp [intOf]; omega
        · have b9 : ((c.toNat : Int) == 9) = false := by simp; omega
          have b10 : ((c.toNat : Int) == 10) = true := by simp; omega
          go_wp2
          go_round
          case rel => exact ⟨q + 1, by omega, by omega, by go_num, HR⟩
          case measure => simp [intOf]; omega
        · have b9 : ((c.toNat : Int) == 9) = false := by simp; omega
          have b10 : ((c.toNat : Int) == 10) = false := by simp; omega
          have b13 : ((c.toNat : Int) == 13) = true := by simp; omega
          go_wp2
          go_round
          case rel => exact ⟨q + 1, by omega, by omega, by go_num, HR⟩
          case measure => simp [intOf]; omega
        · have b9 : ((c.toNat : Int) == 9) = false := by simp; omega
          have b10 : ((c.toNat : Int) == 10) = false := by simp; omega
          have b13 : ((c.toNat : Int) == 13) = false := by simp; omega
          have b32 : ((c.toNat : Int) == 32) = true := by simp; omega
          go_wp2
          go_round
          case rel => exact ⟨q + 1, by omega, by omega, by go_num, HR⟩
          case measure => simp [intOf]; omega
    · have he : q = s.size := by omega
      have HR := Lib.hid (show Tk.skips s p q true from ⟨fun k => by rw [H.out k]; rfl, hpq, hq, fun _ => .inl he⟩)
      clear H
      subst he
      go_wp2
      go_ret2
      first | exact ⟨⟨_, true, rfl, HR.out⟩, rfl⟩ | exact ⟨_, true, rfl, HR.out⟩
end Go.Proofs.YtcoakhahjdnlfaaDoor
