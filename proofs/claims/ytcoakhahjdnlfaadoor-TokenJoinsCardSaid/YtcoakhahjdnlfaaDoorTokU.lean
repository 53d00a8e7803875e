/- The signs in their order: the first one that a text begins with is the sign's token. No program in sight. -/
import Derived.Test.YtcoakhahjdnlfaaDoorTokN
namespace Go.Proofs.YtcoakhahjdnlfaaDoor
set_option linter.all false
namespace Tk
def sgs : List (List UInt8) := signs2 ++ signs1.map fun c => [c]
/-- does a text begin so? -/
def beg (l w : List UInt8) : Bool := l.take w.length == w
theorem find_self (a : List UInt8) (L : List (List UInt8)) : L.find? (fun w => a == w) = if a ∈ L then some a else none := by
  induction L with
  | nil => simp
  | cons b L ih =>
    rw [List.find?_cons]
    by_cases h : a = b
    · subst h; simp
    · rw [show (a == b) = false by simpa using h]
      simp only [ih, List.mem_cons, h, false_or]
theorem find_congr {p q : List UInt8 → Bool} (L : List (List UInt8)) (h : ∀ w ∈ L, p w = q w) : L.find? p = L.find? q := by
  induction L with
  | nil => rfl
  | cons b L ih => rw [List.find?_cons, List.find?_cons, h b (by simp), ih (fun w hw => h w (by simp [hw]))]
theorem sign_find (l : List UInt8) : signT l = match sgs.find? (beg l) with | some w => .ok (6, w, 0, w.length) | none => .error 90 := by
  have h2 : signs2.find? (beg l) = if l.take 2 ∈ signs2 then some (l.take 2) else none := by
    rw [← find_self]
    apply find_congr
    intro w hw
    have : w.length = 2 := by
      simp only [signs2, List.mem_cons, List.not_mem_nil, or_false] at hw
      rcases hw with e | e | e | e <;> rw [e] <;> rfl
    unfold beg; rw [this]
  have h1 : (signs1.map fun c => [c]).find? (beg l) = if l.take 1 ∈ signs1.map (fun c => [c]) then some (l.take 1) else none := by
    rw [← find_self]
    apply find_congr
    intro w hw
    obtain ⟨c, _, rfl⟩ := List.mem_map.1 hw
    rfl
  rw [sgs, List.find?_append, h2, h1]
  unfold signT
  by_cases hs : l.take 2 ∈ signs2
  · rw [if_pos hs, if_pos hs]
    have : (l.take 2).length = 2 := by
      simp only [signs2, List.mem_cons, List.not_mem_nil, or_false] at hs
      rcases hs with e | e | e | e <;> rw [e] <;> rfl
    simp only [Option.some_or]
    rw [this]
  · rw [if_neg hs, if_neg hs, Option.none_or]
    cases l with
    | nil => simp
    | cons c t =>
      have hm : (c :: t).take 1 ∈ signs1.map (fun c => [c]) ↔ c ∈ signs1 := by
        simp [List.mem_map]
      by_cases hc : c ∈ signs1
      · rw [if_pos (hm.2 hc)]
        simp only [hc, if_true]
        try rfl
      · rw [if_neg (fun h => hc (hm.1 h))]
        try simp only [hc, if_false]
theorem sgs_len : sgs.length = 26 := by decide
end Tk
end Go.Proofs.YtcoakhahjdnlfaaDoor
