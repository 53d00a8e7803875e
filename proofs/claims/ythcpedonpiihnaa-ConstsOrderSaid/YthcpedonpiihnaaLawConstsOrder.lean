/- For every input the law ConstsOrder returns true and leaves its arguments as they were. Conditions: none. The frame round the walk. -/
import Derived.Test.YthcpedonpiihnaaRows
import Derived.Test.YthcpedonpiihnaaLwFc
import Derived.Test.YthcpedonpiihnaaOpen2W
import Derived.ProofKit
import Derived.OpenShut
import Derived.ShutString
import Derived.Lib.SmallJoins
namespace Go.Proofs.Ythcpedonpiihnaa.constsOrder
set_option linter.all false
open Go.ChangeShapes Go.WideShapes Go.ChangeAt Go.RowKit Go.Joins
open Go.ChangeMaps (open_string shut_string)
theorem own : ownKnob Try.prog.godebug = none := by kernel_rfl
theorem laidOut : laidOutB Try.prog = true := by kernel_rfl
set_option maxRecDepth 100000 in
theorem lifted (os : Os) (started : os.Started) (H : Type) (enc : TypeId × Value → H) :
    ReturnsInHanded {} Try.checked os 6 .any (Rows.constsOrderSpec.pre6 enc Try.prog Try.f6 Rows.constsOrderRow.domain false) (Rows.constsOrderSpec.post enc Try.prog Try.f6 false true false false) := by
  refine returnsInHanded_of_change (C := Try.checked) own started (by kernel_rfl) Try.func6
    (ChangeSpec.witness6 (enc := enc) (C := Try.checked) false ⟨#[], #[.agg #[.int .i64 0, .int .i64 0, .string ByteArray.empty], .agg #[.int .i64 0, .int .i64 0, .string ByteArray.empty]], []⟩ 8 (by kernel_rfl) (by kernel_rfl) (by kernel_rfl) (by kernel_rfl)) ?_
  intro W base args ds gs before hval0 hW hcnd _
  have hval : ∀ (j : Nat) t v, Try.f6.params[j]? = some t → args[j]? = some v → Value.okWide Try.prog W .any base t v := hval0
  have hW' := hW
  have hlt : ∀ x ∈ before, x.block < W.heap.size := fun x hx => by simpa using hW.lt x hx
  obtain ⟨p, q, hA0, hV, rfl, hfz, hnd⟩ := hW
  have hA : DataW.TrodAll enc Try.prog W 0 (fun _ => true) true Try.f6.params.toList args.toList ds p := hA0
  rw [Try.params6] at hA hval
  obtain ⟨v0, vs0, d0, ds0, p0, q0, hargs, rfl, rfl, h0, r0⟩ := trodAll_cons hA
  obtain ⟨v1, vs1, d1, ds1, p1, q1, rfl, rfl, rfl, h1, r1⟩ := trodAll_cons r0
  obtain ⟨rfl, rfl, rfl⟩ := trodAll_nil r1
  obtain rfl : args = #[v0, v1] := by cases args; simp_all
  obtain ⟨rfl, rfl⟩ := trodVars_none hV
  have h0k := h0
  have h1k := h1
  obtain ⟨e00, e01, e02, y00, y01, y02, m0, rfl, rfl, hp0, hy00, hy01, hy02⟩ := open_agg3 Try.underlying23 (by kernel_rfl) (by kernel_rfl) (hval 0 23 v0 rfl rfl) h0
  obtain ⟨f0, c00, rfl, wf0⟩ := DataW.trod_int Try.underlying3 hy00
  obtain ⟨n0, c01, rfl, wn0⟩ := DataW.trod_int Try.underlying3 hy01
  obtain ⟨t0, c02, rfl, wt0⟩ := DataW.trod_string Try.underlying9 hy02
  simp at c00 c01 c02; subst c00 c01 c02
  obtain ⟨e10, e11, e12, y10, y11, y12, m1, rfl, rfl, hp1, hy10, hy11, hy12⟩ := open_agg3 Try.underlying23 (by kernel_rfl) (by kernel_rfl) (hval 1 23 v1 rfl rfl) h1
  obtain ⟨f1, c10, rfl, wf1⟩ := DataW.trod_int Try.underlying3 hy10
  obtain ⟨n1, c11, rfl, wn1⟩ := DataW.trod_int Try.underlying3 hy11
  obtain ⟨t1, c12, rfl, wt1⟩ := DataW.trod_string Try.underlying9 hy12
  simp at c10 c11 c12; subst c10 c11 c12
  clear hA0 hval0
  simp only [List.append_nil] at hW' hlt
  refine (ConstsOrder_any f0 n0 f1 n1 t0 t1 W (Bd.i64_0 wn0) (Bd.i64_1 wn0) (Bd.i64_0 wn1) (Bd.i64_1 wn1)).mono fun e W' ⟨he, hb⟩ => ?_
  subst he
  refine ⟨_, rfl, _, _, _, [], _, [], hW', trodAll_cons_mk (shut_bool Try.underlying4 _) trodAll_mk0, (trodAll_cons_mk (hb.trod laidOut (by kernel_rfl) (of_decide_eq_true (by kernel_rfl)) h0k (fun x hx => hlt x (by first | exact absurd hx (by simp) | simp [hx]))) (trodAll_cons_mk (hb.trod laidOut (by kernel_rfl) (of_decide_eq_true (by kernel_rfl)) h1k (fun x hx => hlt x (by first | exact absurd hx (by simp) | simp [hx]))) trodAll_mk0)), rfl, hb.frame _, fun h => by cases h⟩
theorem proved : Rows.ConstsOrderSaid :=
  OpenClaim.holds_of_wide 6 Try.f6 rfl rfl rfl rfl rfl rfl rfl ⟨rfl, rfl, rfl, rfl, rfl⟩ rfl rfl rfl rfl rfl (by kernel_rfl) Try.func6 (by kernel_rfl)
    (of_decide_eq_true (by kernel_rfl)) (by unfold Func.isWrapper; first | (rw [if_pos (by decide +kernel)]; kernel_rfl) | (rw [if_neg (by decide +kernel)]; exact ⟨rfl, rfl⟩))
    (fun os started H enc _ => lifted os started H enc)
#print axioms proved
end Go.Proofs.Ythcpedonpiihnaa.constsOrder
