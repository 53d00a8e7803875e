/- Instructions by plain definitions: a word's fields, an instruction's word, its line, and what a line's text is read as by the program and by the document. No program in sight. Conditions: numbers lie in their bounds. -/
import Derived.Test.YtcckbmmjklahfaaGreatDoorTokI
import Derived.Lib.AtoiAllCases
import Derived.Lib.Split
import Derived.Lib.SplitLaws
import Derived.Lib.IndexLaws
import Derived.Lib.IndexMore
import Derived.Lib.CountLaws
import Derived.Lib.Strings
namespace Go.Proofs.YtcckbmmjklahfaaGreatDoor
set_option linter.all false
namespace As
/-- an instruction's fields -/
structure Ins where
  f : Int
  u : Bool
  v : Bool
  a : Int
  b : Int
  c : Int
  op : Int
  n : Int
def ext (m : Int) (x : Int) : Int := if m ≤ 2 * (x % m) then x % m - m else x % m
def fl (b : Bool) : Int := if b then 1 else 0
/-- a word's fields, whether or not it is an instruction -/
def raw (z : Int) : Ins :=
  let f := z / 1073741824
  let u := decide (z / 536870912 % 2 = 1)
  let v := decide (z / 268435456 % 2 = 1)
  let a := z / 16777216 % 16
  if f = 0 then ⟨f, u, v, a, z / 1048576 % 16, z % 16, z / 65536 % 16, 0⟩
  else if f = 1 then ⟨f, u, v, a, z / 1048576 % 16, 0, z / 65536 % 16, z % 65536⟩
  else if f = 2 then ⟨f, u, v, a, z / 1048576 % 16, 0, 0, ext 1048576 z⟩
  else if u = true then ⟨f, u, v, a, 0, 0, 0, ext 16777216 z⟩
  else ⟨f, u, v, a, 0, z % 16, 0, 0⟩
def opU (op : Int) : Prop := op = 0 ∨ (8 ≤ op ∧ op ≤ 10)
def Good (x : Ins) : Prop :=
  (0 ≤ x.a ∧ x.a < 16 ∧ 0 ≤ x.b ∧ x.b < 16 ∧ 0 ≤ x.c ∧ x.c < 16 ∧ 0 ≤ x.op ∧ x.op ≤ 11) ∧
  ((x.f = 0 ∧ x.n = 0 ∧ (x.v = true → x.u = true ∧ x.op = 0) ∧ (x.u = true → opU x.op)) ∨
   (x.f = 1 ∧ x.c = 0 ∧ 0 ≤ x.n ∧ x.n < 65536 ∧ (x.u = true → opU x.op)) ∨
   (x.f = 2 ∧ x.c = 0 ∧ x.op = 0 ∧ -524288 ≤ x.n ∧ x.n < 524288) ∨
   (x.f = 3 ∧ x.b = 0 ∧ x.op = 0 ∧ (x.u = true → x.c = 0 ∧ -8388608 ≤ x.n ∧ x.n < 8388608) ∧ (x.u = false → x.n = 0)))
instance (op : Int) : Decidable (opU op) := by unfold opU; infer_instance
instance (x : Ins) : Decidable (Good x) := by unfold Good; infer_instance
/-- the lower part of an instruction's word -/
def low (x : Ins) : Int :=
  if x.f = 3 then x.c + x.n % 16777216
  else x.b * 1048576 + (if x.f = 2 then x.n % 1048576 else x.op * 65536 + x.c + x.n)
def enc (x : Ins) : Int := x.f * 1073741824 + fl x.u * 536870912 + fl x.v * 268435456 + x.a * 16777216 + low x
theorem low_lt {x : Ins} (h : Good x) : 0 ≤ low x ∧ low x < 16777216 := by
  obtain ⟨⟨a0, a1, b0, b1, c0, c1, o0, o1⟩, h⟩ := h
  unfold low
  rcases h with ⟨hf, h⟩ | ⟨hf, h⟩ | ⟨hf, h⟩ | ⟨hf, h1, h2, h3, h4⟩
  · rw [hf, if_neg (by decide), if_neg (by decide)]; omega
  · rw [hf, if_neg (by decide), if_neg (by decide)]; omega
  · rw [hf, if_neg (by decide), if_pos rfl]; omega
  · rw [hf, if_pos rfl]
    cases hu : x.u
    · have := h4 hu; omega
    · have := h3 hu; omega
theorem good_f {x : Ins} (h : Good x) : 0 ≤ x.f ∧ x.f ≤ 3 := by
  obtain ⟨_, h⟩ := h
  rcases h with ⟨hf, _⟩ | ⟨hf, _⟩ | ⟨hf, _⟩ | ⟨hf, _⟩ <;> omega
theorem fl_le (b : Bool) : 0 ≤ fl b ∧ fl b ≤ 1 := by cases b <;> decide
theorem enc_lt {x : Ins} (h : Good x) : 0 ≤ enc x ∧ enc x < 4294967296 := by
  have := low_lt h
  have := good_f h
  have := fl_le x.u
  have := fl_le x.v
  have h1 := h.1
  unfold enc
  omega
theorem raw_enc {x : Ins} (h : Good x) : raw (enc x) = x := by
  have hl := low_lt h
  have hf := good_f h
  have hu := fl_le x.u
  have hv := fl_le x.v
  have h1 := h.1
  have ef : enc x / 1073741824 = x.f := by unfold enc; omega
  have eu : decide (enc x / 536870912 % 2 = 1) = x.u := by
    cases hx : x.u
    · simp only [enc, hx, fl]; rw [decide_eq_false]; simp; omega
    · simp only [enc, hx, fl]; rw [decide_eq_true]; simp; omega
  have ev : decide (enc x / 268435456 % 2 = 1) = x.v := by
    cases hx : x.v
    · simp only [enc, hx, fl]; rw [decide_eq_false]; simp; generalize (if x.u = true then (1 : Int) else 0) = q; omega
    · simp only [enc, hx, fl]; rw [decide_eq_true]; simp; generalize (if x.u = true then (1 : Int) else 0) = q; omega
  have ea : enc x / 16777216 % 16 = x.a := by unfold enc; omega
  have em : enc x % 16777216 = low x := by unfold enc; omega
  unfold raw
  simp only [ef, eu, ev, ea]
  generalize enc x = z at *
  obtain ⟨f, u, v, a, b, c, op, n⟩ := x
  obtain ⟨_, h⟩ := h
  simp only at *
  unfold low at em hl
  simp only at *
  rcases h with ⟨rfl, rfl, h⟩ | ⟨rfl, rfl, h⟩ | ⟨rfl, rfl, rfl, h⟩ | ⟨rfl, rfl, rfl, h3, h4⟩
  · simp only [show ¬ (0 : Int) = 3 by decide, show ¬ (0 : Int) = 2 by decide, if_false, if_true, reduceIte] at *
    rw [show z / 1048576 % 16 = b by omega, show z % 16 = c by omega, show z / 65536 % 16 = op by omega]
  · simp only [show ¬ (1 : Int) = 3 by decide, show ¬ (1 : Int) = 2 by decide, show ¬ (1 : Int) = 0 by decide, if_false, if_true, reduceIte] at *
    rw [show z / 1048576 % 16 = b by omega, show z % 65536 = n by omega, show z / 65536 % 16 = op by omega]
  · simp only [show ¬ (2 : Int) = 3 by decide, show ¬ (2 : Int) = 1 by decide, show ¬ (2 : Int) = 0 by decide, if_false, if_true, reduceIte] at *
    rw [show z / 1048576 % 16 = b by omega, show ext 1048576 z = n by unfold ext; split <;> omega]
  · simp only [show ¬ (3 : Int) = 2 by decide, show ¬ (3 : Int) = 1 by decide, show ¬ (3 : Int) = 0 by decide, if_false, if_true, reduceIte] at *
    cases u
    · have := h4 rfl
      subst this
      simp only [Bool.false_eq_true, if_false]
      rw [show z % 16 = c by omega]
    · obtain ⟨rfl, h5, h6⟩ := h3 rfl
      simp only [if_true]
      rw [show ext 16777216 z = n by unfold ext; split <;> omega]
/-- the instruction that a word is -/
def dec (z : Int) : Option Ins := if Good (raw z) ∧ enc (raw z) = z then some (raw z) else none
theorem dec_enc {x : Ins} (h : Good x) : dec (enc x) = some x := by
  unfold dec
  rw [raw_enc h, if_pos ⟨h, rfl⟩]
theorem dec_some {z : Int} {x : Ins} (h : dec z = some x) : Good x ∧ enc x = z ∧ raw z = x := by
  unfold dec at h
  split at h
  · rename_i hg
    simp only [Option.some.injEq] at h
    exact ⟨h ▸ hg.1, h ▸ hg.2, h⟩
  · cases h
/-! names -/
def ops : List (List UInt8) := [[77, 79, 86], [76, 83, 76], [65, 83, 82], [82, 79, 82], [65, 78, 68], [65, 78, 78], [73, 79, 82], [88, 79, 82], [65, 68, 68], [83, 85, 66], [77, 85, 76], [68, 73, 86]]
def conds : List (List UInt8) := [[77, 73], [69, 81], [67, 83], [86, 83], [76, 83], [76, 84], [76, 69], [84], [80, 76], [78, 69], [67, 67], [86, 67], [72, 73], [71, 69], [71, 84], [70]]
def mark (u v : Bool) : List UInt8 := (if u then [39] else []) ++ (if v then [34] else [])
def mem (u v : Bool) : List UInt8 := (if u then [83, 84] else [76, 68]) ++ (if v then [66] else [82])
def jump (v : Bool) : List UInt8 := if v then [66, 76, 46] else [66, 46]
def name (x : Ins) : List UInt8 :=
  if x.f = 3 then jump x.v ++ conds.getD x.a.toNat []
  else if x.f = 2 then mem x.u x.v
  else ops.getD x.op.toNat [] ++ mark x.u x.v
def reg (n : Int) : List UInt8 := 82 :: Lib.itoa n
/-- what stands behind a line's blank -/
def rest (x : Ins) : List UInt8 :=
  if x.f = 3 then (if x.u then Lib.itoa x.n else reg x.c)
  else reg x.a ++ [44, 32] ++ (reg x.b ++ [44, 32] ++ (if x.f = 0 then reg x.c else Lib.itoa x.n))
def lineI (x : Ins) : List UInt8 := name x ++ 32 :: rest x
def lineF (z : Int) : Option (List UInt8) := (dec z).map lineI
end As
end Go.Proofs.YtcckbmmjklahfaaGreatDoor
