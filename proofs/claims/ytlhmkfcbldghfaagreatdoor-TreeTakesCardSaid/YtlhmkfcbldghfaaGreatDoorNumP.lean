/- Plain facts on words of 32 bits: shifts,signs,single bits,what fits. No program in sight. Conditions: none beyond the bounds that each lemma names. -/
import Derived.WalkKit
namespace Go.Proofs.YtlhmkfcbldghfaaGreatDoor
set_option linter.all false
open Go.RowKit
namespace Sp
def mayB(a b:Int):Bool:=decide (0≤a∧1≤b∧a≤31∧b≤32 - a)
def sgn(x:Int):Int:=if 2147483648≤x then x - 4294967296 else x
def lsl(x n:Int):Int:=x * 2 ^ (n % 32).toNat % 4294967296
def asr(x n:Int):Int:=sgn x / 2 ^ (n % 32).toNat % 4294967296
def ror(x n:Int):Int:=x / 2 ^ (n % 32).toNat+x % 2 ^ (n % 32).toNat * 2 ^ (32 - (n % 32).toNat)
def get(x lo n:Int):Int:=if mayB lo n=true then x / 2 ^ lo.toNat % 2 ^ n.toNat else 0
def put(x lo n v:Int):Int:=if mayB lo n=true then(x - get x lo n * 2 ^ lo.toNat+v % 2 ^ n.toNat * 2 ^ lo.toNat) % 4294967296 else x
def fit(v:Int):Bool:=decide (-2147483648≤v) && decide (v<2147483648)
theorem fit_iff(v:Int):fit v=true ↔ -2147483648≤v∧v<2147483648:=by simp [fit]
theorem sgn_bd(x:Int)(h0:0≤x)(h1:x<4294967296) : -2147483648≤sgn x∧sgn x<2147483648:=by unfold sgn;split <;> omega
theorem sgn_word(v:Int)(h:fit v=true):sgn (v % 4294967296)=v:=by
 rw [fit_iff]at h;unfold sgn;split <;> omega
theorem wrap32_sgn(x:Int)(h0:0≤x)(h1:x<4294967296):wrap32 x=sgn x:=by simp only [wrap32,sgn];split <;> omega
def rel(op:List UInt8)(n:Int):Bool × Bool:=
 if op == [61]then(n == 0,true)
 else if op == [35]then(n != 0,true)
 else if op == [60]then(decide (n<0),true)
 else if op == [60,61]then(decide (n≤0),true)
 else if op == [62]then(decide (0<n),true)
 else if op == [62,61]then(decide (0≤n),true)
 else(false,false)
abbrev two(r:Bool × Bool):Value:=.tuple #[.bool r.1,.bool r.2]
def call(name:List UInt8)(a b:Int):Int × Bool:=
 if name == [65,66,83]then(sgn ((if sgn (a % 4294967296)<0 then -sgn (a % 4294967296)else sgn (a % 4294967296)) % 4294967296),true)
 else if name == [79,68,68]then(a % 2,true)
 else if name == [76,83,76]then(sgn (lsl (a % 4294967296) (b % 4294967296)),true)
 else if name == [65,83,82]then(sgn (asr (a % 4294967296) (b % 4294967296)),true)
 else if name == [82,79,82]then(sgn (ror (a % 4294967296) (b % 4294967296)),true)
 else if name == [67,72,82]then(a % 256,true)
 else if name == [79,82,68]then(sgn (a % 4294967296),true)
 else(0,false)
def elem(n s:Int):Bool:=get s (n % 32) 1 == 1
end Sp
end Go.Proofs.YtlhmkfcbldghfaaGreatDoor
