/- The calls that token's number makes, each with its answer known ahead; the number's token seen from its digits' end. Conditions: the lexer's record lies in the world. -/
import Derived.Test.YtcoakhahjdnlfaaDoorTokY
import Derived.Test.YtcoakhahjdnlfaaDoorTokF
import Derived.Test.YtcoakhahjdnlfaaDoorAppendW
namespace Go.Proofs.YtcoakhahjdnlfaaDoor
set_option linter.all false
open Go.RowKit
namespace Tk
theorem hp_take (l p : List UInt8) : Lib.hasPrefix l p = (l.take p.length == p) := by
  rw [← Lib.hasPrefix_of_take]
  by_cases h : p.length ≤ l.length
  · simp [h]
  · have : (l.take p.length == p) = false := by
      rw [beq_eq_false_iff_ne]
      intro e
      have := congrArg List.length e
      simp only [List.length_take] at this
      omega
    simp [h, this]
theorem numT_at (s : ByteArray) {n : Nat} (hT : (s.data.toList.takeWhile hexa).length = n) :
    numT s.data.toList =
      if (s.data.toList.drop n).take 1 = [72] then (if val 16 (s.extract 0 n).data.toList < 4294967296 then .ok (3, [], Sp.sgn (val 16 (s.extract 0 n).data.toList), n + 1) else .error 91)
      else if (s.data.toList.drop n).take 1 = [88] then (if val 16 (s.extract 0 n).data.toList < 256 then .ok (4, [], val 16 (s.extract 0 n).data.toList, n + 1) else .error 91)
      else if (!(s.extract 0 n).data.toList.all digit || dots (s.data.toList.drop n)) = true then .error 90
      else if val 10 (s.extract 0 n).data.toList < 2147483648 then .ok (3, [], val 10 (s.extract 0 n).data.toList, n) else .error 91 := by
  have h0 := tw_extract s hexa (i := 0) (k := n) (by simpa using hT)
  simp only [List.drop_zero] at h0
  unfold numT
  simp only [hT]
  rw [h0]
theorem extract_hexa (s : ByteArray) {n : Nat} (hT : (s.data.toList.takeWhile hexa).length = n) : ∀ c ∈ (s.extract 0 n).data.toList, hexa c = true := by
  have h0 := tw_extract s hexa (i := 0) (k := n) (by simpa using hT)
  simp only [List.drop_zero] at h0
  rw [← h0]
  intro c hc
  exact List.all_eq_true.1 (List.all_takeWhile (l := s.data.toList) (p := hexa)) c hc
theorem tw_lt (p : UInt8 → Bool) (l : List UInt8) : (l.takeWhile p).length < l.length ↔ l.all p = false := by
  induction l with
  | nil => simp
  | cons a t ih =>
    rw [List.takeWhile_cons, List.all_cons]
    cases hp : p a
    · simp
    · simp [ih]
theorem rest_list (s : ByteArray) (n : Nat) : (s.extract n s.size).data.toList = s.data.toList.drop n := by
  rw [extract_list, List.take_of_length_le (by simp)]
theorem extract_size (s : ByteArray) (n : Nat) (h : n ≤ s.size) : (s.extract 0 n).size = n := by simp; omega
theorem extract_rest_size (s : ByteArray) (n : Nat) : (s.extract n s.size).size = s.size - n := by simp
end Tk
theorem hp_any {t p : ByteArray} {b : Bool} (h : Lib.hasPrefix t.data.toList p.data.toList = b) (w : World) :
    Calls Tryd.prog 21 #[.string t, .string p] w fun e w' => e = .returned (.bool b) ∧ w' = w := by
  subst h; exact Tryd.strings_HasPrefix t p w
theorem run_at {s : ByteArray} {b n : Nat} {p : UInt8 → Bool} (hT : (s.data.toList.takeWhile p).length = n) (hs : s.size < 4294967281) (w : World) (ht : Tk.Tab w b p) :
    Calls Tryd.prog 41 #[.string s, .pointer (some ⟨b, 0, none⟩)] w fun e w' => e = .returned (.int .i64 n) ∧ ∃ g, w' = more w g := by
  subst hT
  refine (run_any s b p w hs ht.1 ht.2).mono ?_
  rintro e w' ⟨he, k, rfl⟩
  exact ⟨he, more_of_below (below_drewN (Below.refl _ _) k)⟩
theorem ranged_any (b : Bool) (w : World) : Calls Tryd.prog 72 #[.bool b] w fun e w' => e = .returned (.int .i64 (if b then 0 else 91)) ∧ w' = w := by
  cases b <;> (go_enter Tryd.func72, Tryd.ntmps72; go_wp2; go_ret; exact ⟨rfl, rfl⟩)
theorem pu1_ok {t : ByteArray} {v : Nat} (hne : t.size ≠ 0) (hmax : t.size < 4294967281) (hd : ∀ c ∈ t.data.toList, Tk.hexa c = true) (hv : Tk.val 16 t.data.toList = v) (hm : v ≤ 4294967295) (w : World) (hg : Gs w) :
    Calls Tryd.prog 71 #[.string t, .int .i64 16, .int .i64 32] w fun e w' => e = .returned (.tuple #[.int .u64 v, .nilIface]) ∧ ∃ g, w' = more w g :=
  (pu_of t 16 32 4294967295 v w hg hmax (by subst hv; exact puin_16_32 t hne hmax hd w)).mono fun e w' ⟨h1, h2⟩ => ⟨by rcases h1 with h | h; exact h.2; omega, h2⟩
theorem pu1_no {t : ByteArray} {v : Nat} (hne : t.size ≠ 0) (hmax : t.size < 4294967281) (hd : ∀ c ∈ t.data.toList, Tk.hexa c = true) (hv : Tk.val 16 t.data.toList = v) (hm : 4294967295 < v) (w : World) (hg : Gs w) :
    Calls Tryd.prog 71 #[.string t, .int .i64 16, .int .i64 32] w fun e w' => (∃ te pe, e = .returned (.tuple #[.int .u64 4294967295, .iface te pe])) ∧ ∃ g, w' = more w g :=
  (pu_of t 16 32 4294967295 v w hg hmax (by subst hv; exact puin_16_32 t hne hmax hd w)).mono fun e w' ⟨h1, h2⟩ => ⟨by rcases h1 with h | h; omega; exact h.2, h2⟩
theorem pu2_ok {t : ByteArray} {v : Nat} (hne : t.size ≠ 0) (hmax : t.size < 4294967281) (hd : ∀ c ∈ t.data.toList, Tk.hexa c = true) (hv : Tk.val 16 t.data.toList = v) (hm : v ≤ 255) (w : World) (hg : Gs w) :
    Calls Tryd.prog 71 #[.string t, .int .i64 16, .int .i64 8] w fun e w' => e = .returned (.tuple #[.int .u64 v, .nilIface]) ∧ ∃ g, w' = more w g :=
  (pu_of t 16 8 255 v w hg hmax (by subst hv; exact puin_16_8 t hne hmax hd w)).mono fun e w' ⟨h1, h2⟩ => ⟨by rcases h1 with h | h; exact h.2; omega, h2⟩
theorem pu2_no {t : ByteArray} {v : Nat} (hne : t.size ≠ 0) (hmax : t.size < 4294967281) (hd : ∀ c ∈ t.data.toList, Tk.hexa c = true) (hv : Tk.val 16 t.data.toList = v) (hm : 255 < v) (w : World) (hg : Gs w) :
    Calls Tryd.prog 71 #[.string t, .int .i64 16, .int .i64 8] w fun e w' => (∃ te pe, e = .returned (.tuple #[.int .u64 255, .iface te pe])) ∧ ∃ g, w' = more w g :=
  (pu_of t 16 8 255 v w hg hmax (by subst hv; exact puin_16_8 t hne hmax hd w)).mono fun e w' ⟨h1, h2⟩ => ⟨by rcases h1 with h | h; omega; exact h.2, h2⟩
theorem pu3_ok {t : ByteArray} {v : Nat} (hne : t.size ≠ 0) (hmax : t.size < 4294967281) (hd : ∀ c ∈ t.data.toList, Tk.digit c = true) (hv : Tk.val 10 t.data.toList = v) (hm : v ≤ 2147483647) (w : World) (hg : Gs w) :
    Calls Tryd.prog 71 #[.string t, .int .i64 10, .int .i64 31] w fun e w' => e = .returned (.tuple #[.int .u64 v, .nilIface]) ∧ ∃ g, w' = more w g :=
  (pu_of t 10 31 2147483647 v w hg hmax (by subst hv; exact puin_10_31 t hne hmax hd w)).mono fun e w' ⟨h1, h2⟩ => ⟨by rcases h1 with h | h; exact h.2; omega, h2⟩
theorem pu3_no {t : ByteArray} {v : Nat} (hne : t.size ≠ 0) (hmax : t.size < 4294967281) (hd : ∀ c ∈ t.data.toList, Tk.digit c = true) (hv : Tk.val 10 t.data.toList = v) (hm : 2147483647 < v) (w : World) (hg : Gs w) :
    Calls Tryd.prog 71 #[.string t, .int .i64 10, .int .i64 31] w fun e w' => (∃ te pe, e = .returned (.tuple #[.int .u64 2147483647, .iface te pe])) ∧ ∃ g, w' = more w g :=
  (pu_of t 10 31 2147483647 v w hg hmax (by subst hv; exact puin_10_31 t hne hmax hd w)).mono fun e w' ⟨h1, h2⟩ => ⟨by rcases h1 with h | h; omega; exact h.2, h2⟩
end Go.Proofs.YtcoakhahjdnlfaaDoor
