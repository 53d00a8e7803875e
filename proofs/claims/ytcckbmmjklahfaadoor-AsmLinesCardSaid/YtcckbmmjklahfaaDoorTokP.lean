/- The tokens of a text, by plain definition. No program in sight. -/
import Derived.Test.YtcckbmmjklahfaaDoorNumP
namespace Go.Proofs.YtcckbmmjklahfaaDoor
set_option linter.all false
namespace Tk
def letter (c : UInt8) : Bool := (decide (97 ≤ c.toNat) && decide (c.toNat ≤ 122)) || (decide (65 ≤ c.toNat) && decide (c.toNat ≤ 90))
def digit (c : UInt8) : Bool := decide (48 ≤ c.toNat) && decide (c.toNat ≤ 57)
def hexa (c : UInt8) : Bool := digit c || (decide (65 ≤ c.toNat) && decide (c.toNat ≤ 70))
def inside (c : UInt8) : Bool := letter c || digit c
def blank (c : UInt8) : Bool := c == 9 || c == 10 || c == 13 || c == 32
def plain (c : UInt8) : Bool := decide (32 ≤ c.toNat) && c != 34
/-- how many bytes a comment has from here on, d comments being open -/
def cmt : List UInt8 → Int → Option Nat
  | [], _ => none
  | [_], _ => none
  | a :: b :: t, d =>
    if a = 40 ∧ b = 42 then (cmt t (d + 1)).map (· + 2)
    else if a = 42 ∧ b = 41 then (if d = 1 then some 2 else (cmt t (d - 1)).map (· + 2))
    else (cmt (b :: t) d).map (· + 1)
def opens (l : List UInt8) : Bool := l.take 2 == [40, 42]
def dig (c : UInt8) : Nat := if c.toNat ≤ 57 then c.toNat - 48 else c.toNat - 55
def val (b : Nat) (l : List UInt8) : Nat := l.foldl (fun n c => n * b + dig c) 0
abbrev R : Type := Except Int (Int × List UInt8 × Int × Nat)
def dots (l : List UInt8) : Bool := l.take 1 == [46] && l.take 2 != [46, 46]
def numT (l : List UInt8) : R :=
  let d := l.takeWhile hexa
  let rest := l.drop d.length
  if rest.take 1 = [72] then (if val 16 d < 4294967296 then .ok (3, [], Sp.sgn (val 16 d), d.length + 1) else .error 91)
  else if rest.take 1 = [88] then (if val 16 d < 256 then .ok (4, [], val 16 d, d.length + 1) else .error 91)
  else if (!d.all digit || dots rest) = true then .error 90
  else if val 10 d < 2147483648 then .ok (3, [], val 10 d, d.length) else .error 91
def keys : List (List UInt8) := ["ARRAY", "BEGIN", "BY", "CASE", "CONST", "DIV", "DO", "ELSE", "ELSIF", "END", "FALSE", "FOR", "IF", "IMPORT", "IN", "IS", "MOD", "MODULE", "NIL", "OF", "OR", "POINTER", "PROCEDURE", "RECORD", "REPEAT", "RETURN", "THEN", "TO", "TRUE", "TYPE", "UNTIL", "VAR", "WHILE"].map (·.toUTF8.data.toList)
def signs2 : List (List UInt8) := [[58, 61], [46, 46], [60, 61], [62, 61]]
def signs1 : List UInt8 := [43, 45, 42, 47, 38, 126, 46, 44, 59, 124, 40, 91, 123, 94, 61, 35, 60, 62, 58, 41, 93, 125]
def wordT (l : List UInt8) : R :=
  let w := l.takeWhile inside
  if w ∈ keys then .ok (2, w, 0, w.length) else if 24 < w.length then .error 2 else .ok (1, w, 0, w.length)
/-- behind the first quote -/
def textT (t : List UInt8) : R :=
  let w := t.takeWhile plain
  if (t.drop w.length).take 1 = [34] then (if 64 < w.length then .error 2 else .ok (5, w, 0, w.length + 2)) else .error 90
def signT (l : List UInt8) : R :=
  if l.take 2 ∈ signs2 then .ok (6, l.take 2, 0, 2)
  else match l with
    | c :: _ => if c ∈ signs1 then .ok (6, [c], 0, 1) else .error 90
    | [] => .error 90
def tokF (l : List UInt8) : R :=
  match l with
  | [] => .error 90
  | c :: t => if letter c = true then wordT l else if digit c = true then numT l else if c = 34 then textT t else signT l
theorem take_len (p : UInt8 → Bool) (l : List UInt8) : (l.takeWhile p).length ≤ l.length := by
  induction l with
  | nil => simp
  | cons a t ih => rw [List.takeWhile_cons]; split <;> simp; omega
theorem tokF_len {l : List UInt8} {k n : Int} {w : List UInt8} {m : Nat} (h : tokF l = .ok (k, w, n, m)) : 0 < m ∧ m ≤ l.length := by
  unfold tokF at h
  match l with
  | [] => cases h
  | c :: t =>
    simp only at h
    split at h
    · rename_i hc
      have hi : inside c = true := by simp [inside, hc]
      have h1 : 0 < ((c :: t).takeWhile inside).length := by rw [List.takeWhile_cons, if_pos hi]; simp
      have h2 := take_len inside (c :: t)
      unfold wordT at h
      simp only at h
      split at h
      · simp at h; omega
      · split at h
        · cases h
        · simp at h; omega
    · split at h
      · rename_i hc
        have hi : hexa c = true := by simp [hexa, hc]
        have h1 : 0 < ((c :: t).takeWhile hexa).length := by rw [List.takeWhile_cons, if_pos hi]; simp
        have h2 := take_len hexa (c :: t)
        have h3 : ∀ x, ((c :: t).drop ((c :: t).takeWhile hexa).length).take 1 = [x] → ((c :: t).takeWhile hexa).length + 1 ≤ (c :: t).length := by
          intro x hx
          have := congrArg List.length hx
          simp only [List.length_take, List.length_drop, List.length_singleton] at this
          omega
        unfold numT at h
        simp only at h
        split at h
        · rename_i hx
          have := h3 _ hx
          split at h
          · simp at h; simp at this ⊢; omega
          · cases h
        · split at h
          · rename_i hx
            have := h3 _ hx
            split at h
            · simp at h; simp at this ⊢; omega
            · cases h
          · split at h
            · cases h
            · split at h
              · simp at h; simp at h2 ⊢; omega
              · cases h
      · split at h
        · unfold textT at h
          simp only at h
          have h2 := take_len plain t
          split at h
          · rename_i hx
            have := congrArg List.length hx
            simp only [List.length_take, List.length_drop, List.length_singleton] at this
            split at h
            · cases h
            · simp at h; simp; omega
          · cases h
        · unfold signT at h
          split at h
          · rename_i hs
            have : ((c :: t).take 2).length = 2 := by
              simp only [signs2, List.mem_cons, List.not_mem_nil, or_false] at hs
              rcases hs with e | e | e | e <;> rw [e] <;> rfl
            simp only [List.length_take] at this
            simp at h; omega
          · simp only at h
            split at h
            · simp at h; simp; omega
            · cases h
theorem cmt_len (l : List UInt8) (d : Int) (n : Nat) (h : cmt l d = some n) : 2 ≤ n ∧ n ≤ l.length := by
  induction l, d using cmt.induct generalizing n with
  | case1 => simp [cmt] at h
  | case2 => simp [cmt] at h
  | case3 d a b t hab ih =>
    simp only [cmt, hab, if_true, and_self] at h
    obtain ⟨m, hm, rfl⟩ := Option.map_eq_some_iff.1 h
    have := ih m hm
    simp; omega
  | case4 a b t hab hab2 =>
    simp only [cmt, if_neg hab, if_pos hab2, if_true] at h
    simp at h; simp; omega
  | case5 d a b t hab hab2 hd ih =>
    simp only [cmt, if_neg hab, if_pos hab2, if_neg hd] at h
    obtain ⟨m, hm, rfl⟩ := Option.map_eq_some_iff.1 h
    have := ih m hm
    simp; omega
  | case6 d a b t hab hab2 ih =>
    simp only [cmt, if_neg hab, if_neg hab2] at h
    obtain ⟨m, hm, rfl⟩ := Option.map_eq_some_iff.1 h
    have := ih m hm
    simp at this ⊢; omega
/-- a token with its place -/
abbrev Tok : Type := Int × List UInt8 × Int × Int
/-- the tokens of what stands from place at on, k being there already; or the place and the error -/
def lexF (l : List UInt8) (at_ k : Nat) : Except (Nat × Int) (List Tok) :=
  match l with
  | [] => .ok []
  | c :: t =>
    if blank c = true then lexF t (at_ + 1) k
    else if opens (c :: t) = true then
      match hc : cmt (c :: t) 0 with
      | none => .error (at_, 90)
      | some n => lexF ((c :: t).drop n) (at_ + n) k
    else match ht : tokF (c :: t) with
      | .error e => .error (at_, e)
      | .ok (kd, w, n, m) =>
        if k = 6000 then .error (at_, 3)
        else match lexF ((c :: t).drop m) (at_ + m) (k + 1) with
          | .error e => .error e
          | .ok r => .ok ((kd, w, n, at_) :: r)
termination_by l.length
decreasing_by
  · simp
  · have := cmt_len _ _ _ hc; simp at this ⊢; omega
  · have := tokF_len ht; simp at this ⊢; omega
end Tk
end Go.Proofs.YtcckbmmjklahfaaDoor
