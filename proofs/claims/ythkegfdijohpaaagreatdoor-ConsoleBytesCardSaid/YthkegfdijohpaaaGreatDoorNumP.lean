/- Plain facts on words of 32 bits: shifts,signs,single bits,what fits. No program in sight. Conditions: none beyond the bounds that each lemma names. -/
import Derived.WalkKit
namespace Go.Proofs.YthkegfdijohpaaaGreatDoor
set_option linter.all false
open Go.RowKit
namespace Sp
theorem pow_bd(k:Nat)(h:k≤32):(0:Int)<2 ^ k∧(2:Int) ^ k≤4294967296:=by
 have:k<33:=by omega
 revert k;decide
theorem pow_split(k:Nat)(h:k≤32):(2:Int) ^ k * 2 ^ (32 - k)=4294967296:=by
 have:k<33:=by omega
 revert k;decide
def mayB(a b:Int):Bool:=decide (0≤a∧1≤b∧a≤31∧b≤32 - a)
def sgn(x:Int):Int:=if 2147483648≤x then x - 4294967296 else x
def lsl(x n:Int):Int:=x * 2 ^ (n % 32).toNat % 4294967296
def asr(x n:Int):Int:=sgn x / 2 ^ (n % 32).toNat % 4294967296
def ror(x n:Int):Int:=x / 2 ^ (n % 32).toNat+x % 2 ^ (n % 32).toNat * 2 ^ (32 - (n % 32).toNat)
def get(x lo n:Int):Int:=if mayB lo n=true then x / 2 ^ lo.toNat % 2 ^ n.toNat else 0
def put(x lo n v:Int):Int:=if mayB lo n=true then(x - get x lo n * 2 ^ lo.toNat+v % 2 ^ n.toNat * 2 ^ lo.toNat) % 4294967296 else x
def fit(v:Int):Bool:=decide (-2147483648≤v) && decide (v<2147483648)
theorem fit_iff(v:Int):fit v=true ↔ -2147483648≤v∧v<2147483648:=by simp [fit]
theorem fit_false(v:Int):fit v=false ↔ v < -2147483648∨2147483648≤v:=by
 rw [← Bool.not_eq_true,fit_iff];omega
theorem sgn_bd(x:Int)(h0:0≤x)(h1:x<4294967296) : -2147483648≤sgn x∧sgn x<2147483648:=by unfold sgn;split <;> omega
theorem sgn_fit(x:Int)(h0:0≤x)(h1:x<4294967296):fit (sgn x)=true:=(fit_iff _).2 (sgn_bd x h0 h1)
theorem sgn_word(v:Int)(h:fit v=true):sgn (v % 4294967296)=v:=by
 rw [fit_iff]at h;unfold sgn;split <;> omega
theorem word_sgn(x:Int)(h0:0≤x)(h1:x<4294967296):sgn x % 4294967296=x:=by unfold sgn;split <;> omega
theorem sgn_mod(v:Int):sgn (v % 4294967296) % 4294967296=v % 4294967296:=word_sgn _ (by omega) (by omega)
theorem wrap32_sgn(x:Int)(h0:0≤x)(h1:x<4294967296):wrap32 x=sgn x:=by simp only [wrap32,sgn];split <;> omega
theorem wrap32_mod(x:Int):wrap32 x=sgn (x % 4294967296):=by simp only [wrap32,sgn];split <;> omega
theorem lsl_bd(x n:Int):0≤lsl x n∧lsl x n<4294967296:=by unfold lsl;omega
theorem asr_bd(x n:Int):0≤asr x n∧asr x n<4294967296:=by unfold asr;omega
theorem mul_lt{a b c:Int}(h:a<b)(hc:0<c):a * c<b * c:=Int.mul_lt_mul_of_pos_right h hc
theorem div_bd(x p q:Int)(hp:0<p)(h1:x<p * q):x / p<q:=by
 apply Int.ediv_lt_of_lt_mul hp;rw [Int.mul_comm];exact h1
theorem ror_bd(x n:Int)(h0:0≤x)(h1:x<4294967296):0≤ror x n∧ror x n<4294967296:=by
 unfold ror
 generalize hk:(n % 32).toNat=k
 have hk':k≤32:=by omega
 have hp:=pow_bd k hk';have hq:=pow_bd (32 - k) (by omega);have hs:=pow_split k hk'
 generalize (2:Int) ^ k=p at *
 generalize (2:Int) ^ (32 - k)=q at *
 have a:=div_bd x p q (by omega) (by omega)
 have b:0≤x / p:=Int.ediv_nonneg h0 (by omega)
 have c:=Int.emod_nonneg x (b:=p) (by omega)
 have d:=Int.emod_lt_of_pos x (b:=p) (by omega)
 have e:x % p * q≤(p - 1) * q:=Int.mul_le_mul_of_nonneg_right (by omega) (by omega)
 have f:0≤x % p * q:=Int.mul_nonneg c (by omega)
 rw [Int.sub_mul]at e
 constructor <;> omega
theorem get_bd(x:Int)(l m:Nat)(hx:0≤x):0≤get x l m∧get x l m * 2 ^ l≤x:=by
 unfold get
 have hp:(0:Int)<2 ^ l:=Int.pow_pos (by omega)
 have hq:(0:Int)<2 ^ m:=Int.pow_pos (by omega)
 have d:=Int.ediv_nonneg hx (show(0:Int)≤2 ^ l by omega)
 split
 ·simp only [Int.toNat_natCast]
  have a:=Int.emod_nonneg (x / 2 ^ l) (b:=2 ^ m) (by omega)
  have b:x / 2 ^ l % 2 ^ m≤x / 2 ^ l:=by
   have:=Int.emod_add_mul_ediv (x / 2 ^ l) (2 ^ m)
   have:=Int.mul_nonneg (show(0:Int)≤2 ^ m by omega) (Int.ediv_nonneg d (show(0:Int)≤2 ^ m by omega))
   omega
  have c:x / 2 ^ l % 2 ^ m * 2 ^ l≤x / 2 ^ l * 2 ^ l:=Int.mul_le_mul_of_nonneg_right b (by omega)
  have e:=Int.ediv_mul_le x (show(2:Int) ^ l ≠ 0 by omega)
  exact⟨a,by omega⟩
 ·omega
theorem put_bd(v:Int)(l m:Nat)(h:l+m≤32):0≤v % 2 ^ m * 2 ^ l∧v % 2 ^ m * 2 ^ l<4294967296:=by
 have hp:(0:Int)<2 ^ l:=Int.pow_pos (by omega)
 have hq:(0:Int)<2 ^ m:=Int.pow_pos (by omega)
 have a:=Int.emod_nonneg v (b:=2 ^ m) (by omega)
 have b:=Int.emod_lt_of_pos v (b:=2 ^ m) (by omega)
 have c:v % 2 ^ m * 2 ^ l≤(2 ^ m - 1) * 2 ^ l:=Int.mul_le_mul_of_nonneg_right (by omega) (by omega)
 have d:(2:Int) ^ m * 2 ^ l=2 ^ (m+l):=(Int.pow_add ..).symm
 have e:=pow_bd (m+l) (by omega)
 rw [Int.sub_mul]at c
 exact⟨Int.mul_nonneg a (by omega),by omega⟩
def asrN:Nat→Int→Int
 | 0,x=>x
 | k+1,x=>asrN k x / 2+asrN k x / 2147483648 * 2147483648
theorem asrN_eq(x:Int)(h0:0≤x)(h1:x<4294967296)(k:Nat)(hk:k≤32):asrN k x=sgn x / 2 ^ k % 4294967296∧0≤asrN k x∧asrN k x<4294967296:=by
 induction k with
 | zero=>simp only [asrN,Int.pow_zero,Int.ediv_one];rw [word_sgn x h0 h1];exact⟨rfl,h0,h1⟩
 | succ k ih =>
  obtain⟨e,a,b⟩:=ih (by omega)
  have hs:=sgn_bd x h0 h1
  have hp:=pow_bd k (by omega)
  have e2:sgn x / 2 ^ (k+1)=sgn x / 2 ^ k / 2:=by rw [Int.pow_succ,Int.ediv_ediv_of_nonneg (by omega)]
  rw [e2]
  have l : -2147483648≤sgn x / 2 ^ k:=by
   rw [Int.le_ediv_iff_mul_le (by omega)]
   have : -2147483648 * (2:Int) ^ k ≤ -2147483648 * 1:=Int.mul_le_mul_of_nonpos_left (by omega) (by omega)
   omega
  have u:sgn x / 2 ^ k<2147483648:=by
   apply Int.ediv_lt_of_lt_mul (by omega)
   have:2147483648 * 1≤2147483648 * (2:Int) ^ k:=Int.mul_le_mul_of_nonneg_left (by omega) (by omega)
   omega
  unfold asrN
  generalize sgn x / 2 ^ k=y at *
  omega
def rorN:Nat→Int→Int
 | 0,x=>x
 | k+1,x=>rorN k x / 2+rorN k x % 2 * 2147483648
theorem rorN_eq(x:Int)(k:Nat)(hk:k≤31):rorN k x=x / 2 ^ k+x % 2 ^ k * 2 ^ (32 - k):=by
 induction k with
 | zero=>simp [rorN,Int.emod_one]
 | succ k ih =>
  unfold rorN
  rw [ih (by omega)]
  have hp:=pow_bd k (by omega)
  have e1:(2:Int) ^ (k+1)=2 ^ k * 2:=Int.pow_succ ..
  have e2:(2:Int) ^ (32 - k)=2 ^ (31 - k) * 2:=by rw [show 32 - k=(31 - k)+1 from by omega,Int.pow_succ]
  have e3:32 - (k+1)=31 - k:=by omega
  have hs:=pow_split k (by omega)
  rw [e1,e3,e2]
  rw [e2]at hs
  have d2:x / (2 ^ k * 2)=x / 2 ^ k / 2:=by rw [Int.ediv_ediv_of_nonneg (by omega)]
  have m2:x % (2 ^ k * 2)=x % 2 ^ k+(x / 2 ^ k % 2) * 2 ^ k:=by
   have a:=Int.emod_add_mul_ediv x (2 ^ k * 2)
   have b:=Int.emod_add_mul_ediv x (2 ^ k)
   have c:=Int.emod_add_mul_ediv (x / 2 ^ k) 2
   rw [d2]at a
   have e:(2:Int) ^ k * 2 * (x / 2 ^ k / 2)=2 ^ k * (2 * (x / 2 ^ k / 2)):=Int.mul_assoc ..
   have f:(2:Int) ^ k * (x / 2 ^ k)=2 ^ k * (x / 2 ^ k % 2)+2 ^ k * (2 * (x / 2 ^ k / 2)):=by rw [← Int.mul_add,c]
   rw [Int.mul_comm (x / 2 ^ k % 2)]
   omega
  rw [d2,m2,Int.add_mul]
  generalize x / 2 ^ k=y at *
  generalize x % 2 ^ k=z at *
  generalize (2:Int) ^ (31 - k)=q at *
  generalize (2:Int) ^ k=p at *
  have g:y % 2 * p * q=y % 2 * (p * q):=Int.mul_assoc ..
  have g2:p * q=2147483648:=by have:p * (q * 2)=p * q * 2:=(Int.mul_assoc ..).symm;omega
  have g3:z * (q * 2)=z * q * 2:=(Int.mul_assoc ..).symm
  rw [g,g2,g3]
  omega
theorem div_ok(x y:Int)(hx : -2147483648≤x∧x<2147483648)(hy:0<y):fit (x / y)=true:=by
 rw [fit_iff]
 constructor
 ·rw [Int.le_ediv_iff_mul_le hy]
  have : -2147483648 * y ≤ -2147483648 * 1:=Int.mul_le_mul_of_nonpos_left (by omega) (by omega)
  omega
 ·apply Int.ediv_lt_of_lt_mul hy
  have:2147483648 * 1≤2147483648 * y:=Int.mul_le_mul_of_nonneg_left (by omega) (by omega)
  omega
theorem mod_ok(x y:Int)(_ : -2147483648≤x∧x<2147483648)(hy:0<y)(hy1:y<2147483648):fit (x % y)=true:=by
 rw [fit_iff]
 have h1:=Int.emod_nonneg x (b:=y) (by omega)
 have h2:=Int.emod_lt_of_pos x hy
 omega
def aint(op:List UInt8)(x y:Int):Int × Int × Bool:=
 if op == [43]then(sgn ((x+y) % 4294967296),0,true)
 else if op == [45]then(sgn ((x - y) % 4294967296),0,true)
 else if op == [42]then(sgn ((x * y) % 4294967296),0,true)
 else if op == [68,73,86]then(if y≤0 then(0,6,true)else(x / y,0,true))
 else if op == [77,79,68]then(if y≤0 then(0,6,true)else(x % y,0,true))
 else(0,0,false)
def rel(op:List UInt8)(n:Int):Bool × Bool:=
 if op == [61]then(n == 0,true)
 else if op == [35]then(n != 0,true)
 else if op == [60]then(decide (n<0),true)
 else if op == [60,61]then(decide (n≤0),true)
 else if op == [62]then(decide (0<n),true)
 else if op == [62,61]then(decide (0≤n),true)
 else(false,false)
abbrev two(r:Bool × Bool):Value:=.tuple #[.bool r.1,.bool r.2]
def setop(op:List UInt8)(a b:Int):Int × Bool:=
 if op == [43]then(bits .or .u32 a b,true)
 else if op == [45]then(bits .andNot .u32 a b,true)
 else if op == [42]then(bits .and .u32 a b,true)
 else if op == [47]then(bits .xor .u32 a b,true)
 else(0,false)
abbrev wb(r:Int × Bool):Value:=.tuple #[.int .u32 r.1,.bool r.2]
abbrev nb(r:Int × Bool):Value:=.tuple #[.int .i64 r.1,.bool r.2]
def call(name:List UInt8)(a b:Int):Int × Bool:=
 if name == [65,66,83]then(sgn ((if sgn (a % 4294967296)<0 then -sgn (a % 4294967296)else sgn (a % 4294967296)) % 4294967296),true)
 else if name == [79,68,68]then(a % 2,true)
 else if name == [76,83,76]then(sgn (lsl (a % 4294967296) (b % 4294967296)),true)
 else if name == [65,83,82]then(sgn (asr (a % 4294967296) (b % 4294967296)),true)
 else if name == [82,79,82]then(sgn (ror (a % 4294967296) (b % 4294967296)),true)
 else if name == [67,72,82]then(a % 256,true)
 else if name == [79,82,68]then(sgn (a % 4294967296),true)
 else(0,false)
def elem(n s:Int):Bool:=get s (n % 32) 1 == 1
def ones(lo hi:Int):Nat→Int
 | 0=>0
 | k+1=>ones lo hi k+if lo≤k∧(k:Int)≤hi then 2 ^ k else 0
theorem ones_bd(lo hi:Int)(k:Nat):0≤ones lo hi k∧ones lo hi k<2 ^ k:=by
 induction k with
 | zero=>simp [ones]
 | succ k ih =>
  have hp:(0:Int)<2 ^ k:=Int.pow_pos (by omega)
  unfold ones
  rw [Int.pow_succ]
  split <;> omega
theorem ones_const(lo hi:Int)(k m:Nat)(hkm:k≤m)(h:∀ j:Nat,k≤j→j<m→¬(lo≤j∧(j:Int)≤hi)):ones lo hi m=ones lo hi k:=by
 induction m with
 | zero=>rw [show k=0 from by omega]
 | succ m ih =>
  by_cases e:k=m+1
  ·rw [e]
  ·rw [ones,if_neg (h m (by omega) (by omega)),ih (by omega) (fun j h1 h2=>h j h1 (by omega)),Int.add_zero]
theorem pow_lt(k:Nat)(h:k<32):(2:Int) ^ k<4294967296:=by revert k;decide
theorem or_pow(s:Int)(k:Nat)(hk:k<32)(h0:0≤s)(h1:s<2 ^ k):bits .or .u32 s (2 ^ k)=s+2 ^ k:=by
 have hp:=pow_bd k (by omega)
 have hp1:=pow_bd (k+1) (by omega)
 rw [Int.pow_succ]at hp1
 obtain⟨n,rfl⟩:=Int.eq_ofNat_of_zero_le h0
 have e:((2:Int) ^ k)=((2 ^ k:Nat):Int):=by simp
 have hq:(2:Int) ^ k<4294967296:=by
  have:k<32:=hk
  clear hp hp1 h1 e
  revert k;decide
 rw [u32_or _ _ (by omega) (by omega) (by omega) (by omega)]
 rw [e,Int.toNat_natCast,Int.toNat_natCast]
 have l:=Nat.two_pow_add_eq_or_of_lt (i:=k) (b:=n) (by omega) 1
 rw [Nat.mul_one]at l
 rw [Nat.or_comm,← l]
 omega
def cut0(l:List UInt8):List UInt8:=l.takeWhile (· != 0)
abbrev three(r:Int × Int × Bool):Value:=.tuple #[.int .i64 r.1,.int .i64 r.2.1,.bool r.2.2]
end Sp
end Go.Proofs.YthkegfdijohpaaaGreatDoor
