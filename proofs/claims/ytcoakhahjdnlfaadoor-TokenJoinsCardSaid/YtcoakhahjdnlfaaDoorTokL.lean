/- What a token's function returns; how long a run of bytes is, seen from a place within it; what the lexer's record is in a world. -/
import Derived.Test.YtcoakhahjdnlfaaDoorTokD
import Derived.Test.YtcoakhahjdnlfaaDoorMapS
import Derived.Test.YtcoakhahjdnlfaaDoorTokU
namespace Go.Proofs.YtcoakhahjdnlfaaDoor
set_option linter.all false
open Go.RowKit
namespace Tk
/-- a token's value -/
def tv (kd : Int) (t : ByteArray) (n a : Int) : Value := .agg #[.int .i64 kd, .string t, .int .i64 n, .int .i64 a]
/-- what is returned: the token with the place a, its length and off; or an error -/
def TokRet (R : Tk.R) (a : Int) (off : Nat) (e : Ending) : Prop :=
  match R with
  | .ok (kd, w, n, m) => ∃ t : ByteArray, t.data.toList = w ∧ e = .returned (.tuple #[tv kd t n a, .int .i64 ((m + off : Nat) : Int), .int .i64 0])
  | .error c => ∃ f t n a' m, e = .returned (.tuple #[tv f t n a', .int .i64 m, .int .i64 c])
theorem extract_list (s : ByteArray) (i j : Nat) : (s.extract i j).data.toList = (s.data.toList.drop i).take (j - i) := by
  have := Lib.extract_toList s i j
  rw [ByteArray.toList_eq] at this
  exact this
theorem tw_take (p : UInt8 → Bool) (l : List UInt8) : l.takeWhile p = l.take (l.takeWhile p).length := by
  induction l with
  | nil => rfl
  | cons c t ih =>
    rw [List.takeWhile_cons]
    split
    · rw [List.length_cons, List.take_succ_cons, ← ih]
    · simp
theorem tw_in (s : ByteArray) (p : UInt8 → Bool) {k T j : Nat} (hk : k < s.size) (hp : p s[k] = true) (h : T = j + ((s.data.toList.drop k).takeWhile p).length) :
    T = (j + 1) + ((s.data.toList.drop (k + 1)).takeWhile p).length := by
  rw [drop_at s k hk, List.takeWhile_cons, if_pos hp, List.length_cons] at h; omega
theorem tw_out (s : ByteArray) (p : UInt8 → Bool) {k T j : Nat} (hk : k < s.size) (hp : p s[k] = false) (h : T = j + ((s.data.toList.drop k).takeWhile p).length) : T = j := by
  rw [drop_at s k hk, List.takeWhile_cons, if_neg (by simp [hp])] at h; simpa using h
theorem tw_end (s : ByteArray) (p : UInt8 → Bool) {k T j : Nat} (hk : ¬ k < s.size) (h : T = j + ((s.data.toList.drop k).takeWhile p).length) : T = j := by
  rw [List.drop_eq_nil_of_le (by simp; omega)] at h; simpa using h
theorem tw_extract (s : ByteArray) (p : UInt8 → Bool) {i k : Nat} (hT : ((s.data.toList.drop i).takeWhile p).length = k - i) : (s.data.toList.drop i).takeWhile p = (s.extract i k).data.toList := by
  rw [extract_list, ← hT, ← tw_take]
theorem take1_at (s : ByteArray) (k : Nat) (hk : k < s.size) : (s.data.toList.drop k).take 1 = [s[k]] := by rw [drop_at s k hk]; rfl
theorem take1_end (s : ByteArray) (k : Nat) (hk : ¬ k < s.size) : (s.data.toList.drop k).take 1 = [] := by rw [List.drop_eq_nil_of_le (by simp; omega)]; rfl
theorem textT_at (s : ByteArray) {i k : Nat} (hT : ((s.data.toList.drop i).takeWhile plain).length = k - i) (hik : i ≤ k) :
    textT (s.data.toList.drop i) = if (s.data.toList.drop k).take 1 = [34] then (if 64 < k - i then .error 2 else .ok (5, (s.extract i k).data.toList, 0, k - i + 2)) else .error 90 := by
  unfold textT
  simp only [hT, List.drop_drop, show i + (k - i) = k by omega]
  rw [tw_extract s plain hT]
theorem wordT_at (s : ByteArray) {i k : Nat} (hT : ((s.data.toList.drop i).takeWhile inside).length = k - i) :
    wordT (s.data.toList.drop i) = if (s.extract i k).data.toList ∈ keys then .ok (2, (s.extract i k).data.toList, 0, k - i) else if 24 < k - i then .error 2 else .ok (1, (s.extract i k).data.toList, 0, k - i) := by
  unfold wordT
  simp only [hT]
  rw [tw_extract s inside hT]
/-- the block b has a table of what bytes are in p -/
def Tab (w : World) (b : Nat) (p : UInt8 → Bool) : Prop := b < w.heap.size ∧ ∀ c : UInt8, w.cell? ⟨b, c.toNat, none⟩ = some (.bool (p c))
theorem Tab.keep {w w' : World} {b B : Nat} {p : UInt8 → Bool} (h : Tab w b p) (hb : Below B w w') (hB : b < B) : Tab w' b p :=
  ⟨Nat.lt_of_lt_of_le h.1 hb.size, fun c => (hb.cell (p := ⟨b, c.toNat, none⟩) hB).trans (h.2 c)⟩
/-- the lexer's record at x -/
structure Lx (w : World) (x b1 b2 b3 b4 m : Nat) : Prop where
  x0 : x < w.heap.size
  c1 : w.cell? ⟨x, 0, none⟩ = some (.pointer (some ⟨b1, 0, none⟩))
  c2 : w.cell? ⟨x, 1, none⟩ = some (.pointer (some ⟨b2, 0, none⟩))
  c3 : w.cell? ⟨x, 2, none⟩ = some (.pointer (some ⟨b3, 0, none⟩))
  c4 : w.cell? ⟨x, 3, none⟩ = some (.pointer (some ⟨b4, 0, none⟩))
  c5 : w.cell? ⟨x, 4, none⟩ = some (.map (some m))
  t1 : Tab w b1 letter
  t2 : Tab w b2 inside
  t3 : Tab w b3 digit
  t4 : Tab w b4 hexa
  ks : KeysIn w m keys
theorem Lx.below {w w' : World} {x b1 b2 b3 b4 m : Nat} (h : Lx w x b1 b2 b3 b4 m) (hb : Below w.heap.size w w') : Lx w' x b1 b2 b3 b4 m :=
  ⟨Nat.lt_of_lt_of_le h.x0 hb.size, (hb.cell (p := ⟨x, 0, none⟩) h.x0).trans h.c1, (hb.cell (p := ⟨x, 1, none⟩) h.x0).trans h.c2, (hb.cell (p := ⟨x, 2, none⟩) h.x0).trans h.c3, (hb.cell (p := ⟨x, 3, none⟩) h.x0).trans h.c4, (hb.cell (p := ⟨x, 4, none⟩) h.x0).trans h.c5,
    h.t1.keep hb h.t1.1, h.t2.keep hb h.t2.1, h.t3.keep hb h.t3.1, h.t4.keep hb h.t4.1, h.ks.below hb h.ks.lt⟩
end Tk
end Go.Proofs.YtcoakhahjdnlfaaDoor
