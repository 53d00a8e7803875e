/- What constants come to, by plain definition: values are a form, a number and a text. No program in sight. -/
import Derived.Test.YthcpedonpiihnaaNumP
namespace Go.Proofs.Ythcpedonpiihnaa
set_option linter.unusedSimpArgs false
set_option linter.unusedVariables false
namespace Sp
abbrev V (f n : Int) : Value := .agg #[.int .i64 f, .int .i64 n, .string ⟨#[]⟩]
abbrev R (r : Int × Int × Int) : Value := .tuple #[V r.1 r.2.1, .int .i64 r.2.2]
def tn (b : Bool) : Int := if b then 1 else 0
def fitsF (n : Int) : Int × Int × Int := if fit n then (1, n, 0) else (0, 0, 91)
def divF (a b : Int) (q : Bool) : Int × Int × Int := if b ≤ 0 then (0, 0, 121) else if q then (1, a / b, 0) else (1, a % b, 0)
def inF (x y : Int) : Int × Int × Int := if x < 0 ∨ 31 < x then (0, 0, 91) else (2, tn (y / 2 ^ x.toNat % 2 == 1), 0)
def boolF (op : List UInt8) (x y : Int) : Bool := if op == [38] then x == 1 && y == 1 else x == 1 || y == 1
/-- is a text one of a constant? -/
def goodText (l : List UInt8) : Bool := decide (l.length ≤ 64) && l.all fun c => decide (32 ≤ c.toNat) && c != 34
def good (f n : Int) (t : List UInt8) : Bool :=
  if f = 6 then n == 0 && goodText t
  else if t ≠ [] then false
  else if f = 1 then fit n
  else if f = 2 then n == 0 || n == 1
  else if f = 3 then decide (0 ≤ n) && decide (n < 256)
  else if f = 4 then decide (0 ≤ n) && decide (n < 4294967296)
  else f == 5 && n == 0
/-- the character of a text of one byte -/
def charF (f n : Int) (t : List UInt8) : Int × Int × List UInt8 :=
  match t with
  | [c] => if f = 6 then (3, c.toNat, []) else (f, n, [c])
  | t => (f, n, t)
end Sp
end Go.Proofs.Ythcpedonpiihnaa
