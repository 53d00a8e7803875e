/- For every input the law ArithConsts returns true and leaves its arguments as they were. Conditions: none. The frame round the walk. -/
import Derived.Test.YthcpedonpiihnaaRows
import Derived.Test.YthcpedonpiihnaaLwI1
import Derived.Test.YthcpedonpiihnaaLwI2
import Derived.Test.YthcpedonpiihnaaLwI3
import Derived.Test.YthcpedonpiihnaaLwI4
import Derived.ProofKit
import Derived.OpenShut
import Derived.ShutString
import Derived.Lib.SmallJoins
namespace Go.Proofs.Ythcpedonpiihnaa
set_option linter.all false
open Go.ChangeShapes Go.WideShapes Go.ChangeAt Go.RowKit Go.Joins
namespace Bd
theorem u32_0 {n : Int} (h : (Lit.int .u32 n).wf = true) : 0 ≤ n := by
  simp [Lit.wf, IntKind.min, IntKind.max, IntKind.signed, IntKind.bits] at h; omega
theorem u32_1 {n : Int} (h : (Lit.int .u32 n).wf = true) : n < 4294967296 := by
  simp [Lit.wf, IntKind.min, IntKind.max, IntKind.signed, IntKind.bits] at h; omega
end Bd
section
variable {H : Type} {enc : TypeId × Value → H} {P : Program} {w : World} {base : Nat} {spare : Nat → Bool} {held : Bool}
theorem open_arr2 {r : Reach} {b0 : Nat} {t e : TypeId} {v : Value} {d : DataW H} {p : List MemPlace} (hs : P.underlying t = some (.array 2 e)) (hone : P.cellsOf e = 1) (hC : P.cellsOf t = 2)
    (hv : Value.okWide P w r b0 t v) (h : DataW.Trod enc P w base spare held t v d p) :
    ∃ (v0 v1 : Value) (y0 y1 : DataW H × List MemPlace) (n : Nat), v = .agg #[v0, v1] ∧ d = .agg [y0.1, y1.1] ∧ p = y0.2 ++ y1.2 ∧
      DataW.trod enc P w base spare held n e [v0] = some y0 ∧ DataW.trod enc P w base spare held n e [v1] = some y1 := by
  simp only [Value.okWide, hs] at hv
  obtain ⟨cs, rfl, hsz, _⟩ := hv
  rw [hC] at hsz
  obtain ⟨c0, c1, rfl⟩ : ∃ c0 c1, cs = #[c0, c1] := by
    refine ⟨cs[0], cs[1], ?_⟩
    apply Array.ext
    · simp [hsz]
    · intro i h1 h2
      have : i = 0 ∨ i = 1 := by omega
      rcases this with rfl | rfl <;> rfl
  obtain ⟨fuel, hf⟩ := h
  obtain ⟨xs, m, _, hx, _, hl, hi⟩ := DataW.trod_array hs hf
  match xs, hl, hx, hi with
  | [y0, y1], _, hx, hi =>
    simp only [Prod.mk.injEq] at hx
    have h0 := hi 0 (by omega)
    have h1 := hi 1 (by omega)
    rw [hone] at h0 h1
    exact ⟨c0, c1, y0, y1, m, rfl, by simpa using hx.1, by simpa using hx.2, by simpa [Value.cells] using h0, by simpa [Value.cells] using h1⟩
end
end Go.Proofs.Ythcpedonpiihnaa
namespace Go.Proofs.Ythcpedonpiihnaa
set_option linter.all false
namespace Bd
theorem i64_0 {n : Int} (h : (Lit.int .i64 n).wf = true) : -9223372036854775808 ≤ n := by
  simp [Lit.wf, IntKind.min, IntKind.max, IntKind.signed, IntKind.bits] at h; omega
theorem i64_1 {n : Int} (h : (Lit.int .i64 n).wf = true) : n < 9223372036854775808 := by
  simp [Lit.wf, IntKind.min, IntKind.max, IntKind.signed, IntKind.bits] at h; omega
end Bd
end Go.Proofs.Ythcpedonpiihnaa
namespace Go.Proofs.Ythcpedonpiihnaa
set_option linter.all false
open Go.RowKit
theorem name_kind (name : ByteArray) : name = ⟨#[76, 83, 76]⟩ ∨ name = ⟨#[65, 83, 82]⟩ ∨ name = ⟨#[82, 79, 82]⟩ ∨ ((name.toList == [76, 83, 76]) = false ∧ (name.toList == [65, 83, 82]) = false ∧ (name.toList == [82, 79, 82]) = false) := by
  rw [ByteArray.toList_eq]
  by_cases h1 : name.data.toList = [76, 83, 76]
  · exact .inl (bytes_ext h1)
  by_cases h2 : name.data.toList = [65, 83, 82]
  · exact .inr (.inl (bytes_ext h2))
  by_cases h3 : name.data.toList = [82, 79, 82]
  · exact .inr (.inr (.inl (bytes_ext h3)))
  exact .inr (.inr (.inr ⟨by simpa using h1, by simpa using h2, by simpa using h3⟩))
theorem vb1 (n : Int) (h0 : -9223372036854775808 ≤ n) (h1 : n < 9223372036854775808) : ∀ x ∈ [((1, n, ⟨#[]⟩) : Va)], VaBd x := by
  intro x hx
  simp at hx
  subst hx
  exact ⟨h0, h1, (by decide : (⟨#[]⟩ : ByteArray).size < 4294967281)⟩
theorem vb2 (n m : Int) (h0 : -9223372036854775808 ≤ n) (h1 : n < 9223372036854775808) (m0 : -9223372036854775808 ≤ m) (m1 : m < 9223372036854775808) : ∀ x ∈ [((1, n, ⟨#[]⟩) : Va), (1, m, ⟨#[]⟩)], VaBd x := by
  intro x hx
  simp at hx
  rcases hx with rfl | rfl
  · exact ⟨h0, h1, (by decide : (⟨#[]⟩ : ByteArray).size < 4294967281)⟩
  · exact ⟨m0, m1, (by decide : (⟨#[]⟩ : ByteArray).size < 4294967281)⟩
theorem callK (name : ByteArray) (n0 n1 : Int) (kn : Int) (known : Bool) (hk : Sp.call name.toList n0 n1 = (kn, known)) (w : World) : Calls Try.prog 42 #[.string name, .int .i64 n0, .int .i64 n1] w fun e w' => e = .returned (Sp.nb (kn, known)) ∧ w = w' :=
  (call_any name n0 n1 w).mono fun e w' h => by rw [hk] at h; exact h
theorem callC1 (name : ByteArray) (n0 : Int) (c : Int × Int × Int) (hc : Sp.callsF name.toList [(1, n0, ⟨#[]⟩)] = c) (h0 : -9223372036854775808 ≤ n0) (h1 : n0 < 9223372036854775808) (v : Value) (w : World) (hR : Reads w v 1 3 (valCells [(1, n0, ⟨#[]⟩)])) :
    Calls Try.prog 44 #[.string name, v] w fun e w' => e = .returned (Sp.R c) ∧ ∃ g, w' = more w g :=
  (Call_any name v [(1, n0, ⟨#[]⟩)] w hR (by simp) (vb1 n0 h0 h1)).mono fun e w' h => by rw [hc] at h; exact h
theorem callC2 (name : ByteArray) (n0 n1 : Int) (c : Int × Int × Int) (hc : Sp.callsF name.toList [(1, n0, ⟨#[]⟩), (1, n1, ⟨#[]⟩)] = c) (h0 : -9223372036854775808 ≤ n0) (h1 : n0 < 9223372036854775808) (m0 : -9223372036854775808 ≤ n1) (m1 : n1 < 9223372036854775808) (v : Value) (w : World) (hR : Reads w v 2 3 (valCells [(1, n0, ⟨#[]⟩), (1, n1, ⟨#[]⟩)])) :
    Calls Try.prog 44 #[.string name, v] w fun e w' => e = .returned (Sp.R c) ∧ ∃ g, w' = more w g :=
  (Call_any name v [(1, n0, ⟨#[]⟩), (1, n1, ⟨#[]⟩)] w hR (by simp) (vb2 n0 n1 h0 h1 m0 m1)).mono fun e w' h => by rw [hc] at h; exact h
theorem shiftFact (name : ByteArray) (hs : Sp.isShift name.toList = true) (n0 n1 : Int) {kn cf cn ce : Int} {known : Bool} (hk : Sp.call name.toList n0 n1 = (kn, known)) (hc : Sp.callsF name.toList [(1, n0, ⟨#[]⟩), (1, n1, ⟨#[]⟩)] = (cf, cn, ce)) : ce = 0 → known = true ∧ kn = cn := fun h => by
  have := Sp.calls_two name.toList n0 n1 hs (by rw [hc]; exact h)
  rw [hk, hc] at this
  simp at this
  exact ⟨this.2, this.1⟩
theorem plainFact (name : ByteArray) (hs : Sp.isShift name.toList = false) (n0 n1 : Int) {kn cf cn ce : Int} {known : Bool} (hk : Sp.call name.toList n0 n1 = (kn, known)) (hc : Sp.callsF name.toList [(1, n0, ⟨#[]⟩)] = (cf, cn, ce)) : ce = 0 → known = true ∧ kn = cn := fun h => by
  have := Sp.calls_one name.toList n0 n1 hs (by rw [hc]; exact h)
  rw [hk, hc] at this
  simp at this
  exact ⟨this.2, this.1⟩
theorem ArithConsts_any (op name : ByteArray) (n0 n1 : Int) (w : World) (so : op.size ≤ maxLen) (a0 : -9223372036854775808 ≤ n0) (a1 : n0 < 9223372036854775808) (b0 : -9223372036854775808 ≤ n1) (b1 : n1 < 9223372036854775808) :
    Calls Try.prog 15 #[.string op, .string name, .agg #[.int .i64 n0, .int .i64 n1]] w fun e w' => e = .returned (.bool true) ∧ Below w.heap.size w w' := by
  have hA := Sp.arith_two op.data.toList n0 n1
  have IW := fun w => mo (Int_any op n0 n1 w)
  have RW := fun w => relate_any op n0 n1 w
  rw [ByteArray.toList_eq] at IW RW
  have TW := fun r (hr : Sp.twoF op.data.toList 1 n0 [] 1 n1 [] = r) => Two_ints (op := op) hr so a0 a1 b0 b1
  generalize Sp.aint op.data.toList (Sp.sgn (n0 % 4294967296)) (Sp.sgn (n1 % 4294967296)) = i at hA IW
  generalize Sp.rel op.data.toList (Sp.sgn (n0 % 4294967296) - Sp.sgn (n1 % 4294967296)) = q at hA RW
  generalize hr : Sp.twoF op.data.toList 1 n0 [] 1 n1 [] = r at hA
  replace TW := TW r hr
  clear hr
  obtain ⟨rf, rn, re⟩ := r
  obtain ⟨im, it, ok⟩ := i
  obtain ⟨is, there⟩ := q
  obtain ⟨kn, known, hk⟩ : ∃ kn known, Sp.call name.toList n0 n1 = (kn, known) := ⟨_, _, rfl⟩
  obtain ⟨cf, cn, ce, hc⟩ : ∃ cf cn ce, Sp.callsF name.toList [(1, n0, ⟨#[]⟩)] = (cf, cn, ce) := ⟨_, _, _, rfl⟩
  obtain ⟨df, dn, de, hd⟩ : ∃ df dn de, Sp.callsF name.toList [(1, n0, ⟨#[]⟩), (1, n1, ⟨#[]⟩)] = (df, dn, de) := ⟨_, _, _, rfl⟩
  have KW := callK name n0 n1 kn known hk
  have C1 := callC1 name n0 _ hc a0 a1
  have C2 := callC2 name n0 n1 _ hd a0 a1 b0 b1
  have F1 := fun hs => plainFact name hs n0 n1 hk hc
  have F2 := fun hs => shiftFact name hs n0 n1 hk hd
  clear hk hc hd
  simp only [Sp.Agrees] at hA
  rcases hA with ⟨k1, k2⟩ | ⟨rfl, rfl⟩ | ⟨rfl, rfl, k3⟩ | ⟨rfl, rfl, rfl, rfl⟩
  · rcases name_kind name with rfl | rfl | rfl | ⟨t1, t2, t3⟩
    · exact ArithConsts_1L op n0 n1 w rf rn re im it ok is there df dn de kn known TW IW RW C2 KW (by simpa using k1) (by simpa using k2) (F2 (by decide +kernel))
    · exact ArithConsts_1A op n0 n1 w rf rn re im it ok is there df dn de kn known TW IW RW C2 KW (by simpa using k1) (by simpa using k2) (F2 (by decide +kernel))
    · exact ArithConsts_1R op n0 n1 w rf rn re im it ok is there df dn de kn known TW IW RW C2 KW (by simpa using k1) (by simpa using k2) (F2 (by decide +kernel))
    · exact ArithConsts_1N op name n0 n1 w rf rn re im it ok is there cf cn ce kn known TW IW RW C1 KW (by simpa using k1) (by simpa using k2) t1 t2 t3 (F1 (by unfold Sp.isShift; rw [t1, t2, t3]; rfl))
  · rcases name_kind name with rfl | rfl | rfl | ⟨t1, t2, t3⟩
    · exact ArithConsts_2L op n0 n1 w rf rn im ok is there df dn de kn known TW IW RW C2 KW (F2 (by decide +kernel))
    · exact ArithConsts_2A op n0 n1 w rf rn im ok is there df dn de kn known TW IW RW C2 KW (F2 (by decide +kernel))
    · exact ArithConsts_2R op n0 n1 w rf rn im ok is there df dn de kn known TW IW RW C2 KW (F2 (by decide +kernel))
    · exact ArithConsts_2N op name n0 n1 w rf rn im ok is there cf cn ce kn known TW IW RW C1 KW t1 t2 t3 (F1 (by unfold Sp.isShift; rw [t1, t2, t3]; rfl))
  · obtain ⟨rfl, rfl, rfl⟩ : im = rn ∧ it = 0 ∧ ok = true := by simpa using k3
    rcases name_kind name with rfl | rfl | rfl | ⟨t1, t2, t3⟩
    · exact ArithConsts_3L op n0 n1 w im is there df dn de kn known TW IW RW C2 KW (F2 (by decide +kernel))
    · exact ArithConsts_3A op n0 n1 w im is there df dn de kn known TW IW RW C2 KW (F2 (by decide +kernel))
    · exact ArithConsts_3R op n0 n1 w im is there df dn de kn known TW IW RW C2 KW (F2 (by decide +kernel))
    · exact ArithConsts_3N op name n0 n1 w im is there cf cn ce kn known TW IW RW C1 KW t1 t2 t3 (F1 (by unfold Sp.isShift; rw [t1, t2, t3]; rfl))
  · rcases name_kind name with rfl | rfl | rfl | ⟨t1, t2, t3⟩
    · exact ArithConsts_4L op n0 n1 w rn im it ok df dn de kn known TW IW RW C2 KW (F2 (by decide +kernel))
    · exact ArithConsts_4A op n0 n1 w rn im it ok df dn de kn known TW IW RW C2 KW (F2 (by decide +kernel))
    · exact ArithConsts_4R op n0 n1 w rn im it ok df dn de kn known TW IW RW C2 KW (F2 (by decide +kernel))
    · exact ArithConsts_4N op name n0 n1 w rn im it ok cf cn ce kn known TW IW RW C1 KW t1 t2 t3 (F1 (by unfold Sp.isShift; rw [t1, t2, t3]; rfl))
end Go.Proofs.Ythcpedonpiihnaa
namespace Go.Proofs.Ythcpedonpiihnaa.arithConsts
set_option linter.all false
open Go.ChangeShapes Go.WideShapes Go.ChangeAt Go.RowKit Go.Joins
open Go.ChangeMaps (open_string shut_string)
theorem own : ownKnob Try.prog.godebug = none := by kernel_rfl
theorem laidOut : laidOutB Try.prog = true := by kernel_rfl
set_option maxRecDepth 100000 in
theorem lifted (os : Os) (started : os.Started) (H : Type) (enc : TypeId × Value → H) :
    ReturnsInHanded {} Try.checked os 15 .any (Rows.arithConstsSpec.pre6 enc Try.prog Try.f15 Rows.arithConstsRow.domain false) (Rows.arithConstsSpec.post enc Try.prog Try.f15 false true false false) := by
  refine returnsInHanded_of_change (C := Try.checked) own started (by kernel_rfl) Try.func15
    (ChangeSpec.witness6 (enc := enc) (C := Try.checked) false ⟨#[], #[.string ByteArray.empty, .string ByteArray.empty, .agg #[.int .i64 0, .int .i64 0]], []⟩ 8 (by kernel_rfl) (by kernel_rfl) (by kernel_rfl) (by kernel_rfl)) ?_
  intro W base args ds gs before hval0 hW hcnd _
  have hval : ∀ (j : Nat) t v, Try.f15.params[j]? = some t → args[j]? = some v → Value.okWide Try.prog W .any base t v := hval0
  have hW' := hW
  have hlt : ∀ x ∈ before, x.block < W.heap.size := fun x hx => by simpa using hW.lt x hx
  obtain ⟨p, q, hA0, hV, rfl, hfz, hnd⟩ := hW
  have hA : DataW.TrodAll enc Try.prog W 0 (fun _ => true) true Try.f15.params.toList args.toList ds p := hA0
  rw [Try.params15] at hA hval
  obtain ⟨v0, vs0, d0, ds0, p0, q0, hargs, rfl, rfl, h0, r0⟩ := trodAll_cons hA
  obtain ⟨v1, vs1, d1, ds1, p1, q1, rfl, rfl, rfl, h1, r1⟩ := trodAll_cons r0
  obtain ⟨v2, vs2, d2, ds2, p2, q2, rfl, rfl, rfl, h2, r2⟩ := trodAll_cons r1
  obtain ⟨rfl, rfl, rfl⟩ := trodAll_nil r2
  obtain rfl : args = #[v0, v1, v2] := by cases args; simp_all
  obtain ⟨rfl, rfl⟩ := trodVars_none hV
  have h0k := h0
  have h1k := h1
  have h2k := h2
  obtain ⟨a0, rfl, rfl, rfl, w0⟩ := open_string Try.underlying9 (hval 0 9 v0 rfl rfl) h0
  obtain ⟨a1, rfl, rfl, rfl, w1⟩ := open_string Try.underlying9 (hval 1 9 v1 rfl rfl) h1
  obtain ⟨e20, e21, y20, y21, m2, rfl, rfl, hp2, hy20, hy21⟩ := open_arr2 Try.underlying54 (by kernel_rfl) (by kernel_rfl) (hval 2 54 v2 rfl rfl) h2
  obtain ⟨x20, c20, rfl, wx20⟩ := DataW.trod_int Try.underlying3 hy20
  obtain ⟨x21, c21, rfl, wx21⟩ := DataW.trod_int Try.underlying3 hy21
  simp at c20 c21; subst c20 c21
  clear hA0 hval0
  simp only [List.append_nil] at hW' hlt
  refine (ArithConsts_any a0 a1 x20 x21 W w0 (Bd.i64_0 wx20) (Bd.i64_1 wx20) (Bd.i64_0 wx21) (Bd.i64_1 wx21)).mono fun e W' ⟨he, hb⟩ => ?_
  subst he
  refine ⟨_, rfl, _, _, _, [], _, [], hW', trodAll_cons_mk (shut_bool Try.underlying4 _) trodAll_mk0, (trodAll_cons_mk (hb.trod laidOut (by kernel_rfl) (of_decide_eq_true (by kernel_rfl)) h0k (fun x hx => hlt x (by first | exact absurd hx (by simp) | simp [hx]))) (trodAll_cons_mk (hb.trod laidOut (by kernel_rfl) (of_decide_eq_true (by kernel_rfl)) h1k (fun x hx => hlt x (by first | exact absurd hx (by simp) | simp [hx]))) (trodAll_cons_mk (hb.trod laidOut (by kernel_rfl) (of_decide_eq_true (by kernel_rfl)) h2k (fun x hx => hlt x (by first | exact absurd hx (by simp) | simp [hx]))) trodAll_mk0))), rfl, hb.frame _, fun h => by cases h⟩
theorem proved : Rows.ArithConstsSaid :=
  OpenClaim.holds_of_wide 15 Try.f15 rfl rfl rfl rfl rfl rfl rfl ⟨rfl, rfl, rfl, rfl, rfl⟩ rfl rfl rfl rfl rfl (by kernel_rfl) Try.func15 (by kernel_rfl)
    (of_decide_eq_true (by kernel_rfl)) (by unfold Func.isWrapper; first | (rw [if_pos (by decide +kernel)]; kernel_rfl) | (rw [if_neg (by decide +kernel)]; exact ⟨rfl, rfl⟩))
    (fun os started H enc _ => lifted os started H enc)
#print axioms proved
end Go.Proofs.Ythcpedonpiihnaa.arithConsts
