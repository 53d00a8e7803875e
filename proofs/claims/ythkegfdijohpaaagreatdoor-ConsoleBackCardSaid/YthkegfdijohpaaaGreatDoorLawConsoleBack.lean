/- For every input the law ConsoleBack returns true and leaves its arguments as they were. Conditions: none. The frame round the walk. -/
import Derived.Test.YthkegfdijohpaaaGreatDoorRows
import Derived.Test.YthkegfdijohpaaaGreatDoorCoB
import Derived.Test.YthkegfdijohpaaaGreatDoorCardC
import Derived.Test.YthkegfdijohpaaaGreatDoorFxBBack
import Derived.Test.YthkegfdijohpaaaGreatDoorOpen2W
import Derived.Test.YthkegfdijohpaaaGreatDoorOpC
import Derived.ProofKit
import Derived.OpenShut
import Derived.ShutString
import Derived.Lib.SmallJoins
namespace Go.Proofs.YthkegfdijohpaaaGreatDoor.consoleBack
set_option linter.all false
set_option maxRecDepth 1000000
set_option maxHeartbeats 16000000
open Go Go.ChangeShapes Go.WideShapes Go.ChangeAt Go.RowKit Go.Joins
open Go.ChangeMaps (open_string shut_string)
theorem own : ownKnob Tryz.prog.godebug = none := by kernel_rfl
theorem lifted (os : Os) (started : os.Started) (H : Type) (enc : TypeId × Value → H) :
  ReturnsInHanded {} Tryz.checked os 5 .any (fun w args => (Rows.consoleBackSpec.pre enc Tryz.prog Tryz.f5 [] false w args ∧ laidMetH Tryz.prog Rows.consoleBackRow.laid w) ∧ sizedMet enc Tryz.prog Tryz.f5 (OpenSpec.ofChange Rows.consoleBackSpec) false w args) (Rows.consoleBackSpec.post enc Tryz.prog Tryz.f5 false true false false) := by
 refine returnsInHanded_of_change_and (C := Tryz.checked) (X := fun w _ => laidMetH Tryz.prog Rows.consoleBackRow.laid w) (fun _ _ _ hh h => h.of_heap hh) own started (by as_aux_lemma => kernel_rfl) Tryz.func5
  (ChangeSpec.witness_shaped (enc := enc) (C := Tryz.checked) (os := os) (X := fun w _ => laidMetH Tryz.prog Rows.consoleBackRow.laid w) false (World.laidAll Tryz.prog os Rows.consoleBackRow.laid) #[.agg #[.int .i64 0, .string ByteArray.empty, .string ByteArray.empty, .int .i64 0, .int .i64 0, .int .i64 0], .string ByteArray.empty] 8 (back_os os) (World.shaped_of_ZipB (by as_aux_lemma => kernel_rfl) (by as_aux_lemma => kernel_rfl)) (by as_aux_lemma => kernel_rfl) (by as_aux_lemma => kernel_rfl) (by as_aux_lemma => kernel_rfl) (back_met os _)) ?_
 intro W base args ds gs before hval0 hW _ hsz hL _
 have hG : Gc W := gc_of_laid hL
 have hval : ∀ (j : Nat) t v, Tryz.f5.params[j]? = some t → args[j]? = some v → Value.okWide Tryz.prog W .any base t v := hval0
 have hW' := hW
 have hlt : ∀ x ∈ before, x.block < W.heap.size := fun x hx => by simpa using hW.lt x hx
 obtain ⟨p, q, hA0, hV, rfl, hfz, hnd⟩ := hW
 have hA : DataW.TrodAll enc Tryz.prog W 0 (fun _ => true) true Tryz.f5.params.toList args.toList ds p := hA0
 rw [Tryz.params5] at hA hval
 obtain ⟨v0, vs0, d0, ds0, p0, q0, hargs, rfl, rfl, h0, r0⟩ := trodAll_cons hA
 obtain ⟨v1, vs1, d1, ds1, p1, q1, rfl, rfl, rfl, h1, r1⟩ := trodAll_cons r0
 obtain ⟨rfl, rfl, rfl⟩ := trodAll_nil r1
 obtain rfl : args = #[v0, v1] := by cases args; simp_all
 obtain ⟨rfl, rfl⟩ := trodVars_none hV
 have h0k := h0
 have h1k := h1
 obtain ⟨o0, N0, T0, x0, y0, z0, rfl, b0, c0, e0⟩ := Op.open_cmd (hval 0 26 v0 rfl rfl) h0
 obtain ⟨a1, rfl, rfl, rfl, w1⟩ := open_string Tryz.underlying9 (hval 1 9 v1 rfl rfl) h1
 clear hA0 hval0
 simp only [List.append_nil] at hW' hlt
 refine (ConsoleBack_any o0 N0 T0 a1 x0 y0 z0 W hG b0 c0 e0).mono fun e W' ⟨he, hb⟩ => ?_
 subst he
 refine ⟨_, rfl, _, _, _, [], _, [], hW', trodAll_cons_mk (shut_bool Tryz.underlying4 _) trodAll_mk0, (trodAll_cons_mk (hb.trod fx_laidOut (by as_aux_lemma => kernel_rfl) (of_decide_eq_true (by as_aux_lemma => kernel_rfl)) h0k (fun x hx => hlt x (by first | exact absurd hx (by simp) | simp [hx]))) (trodAll_cons_mk (shut_string Tryz.underlying9 w1) trodAll_mk0)), rfl, hb.frame _, fun h => by cases h⟩
theorem row_holds : Rows.ConsoleBackSaid :=
 OpenClaim.holds_of_wide 5 Tryz.f5 rfl rfl rfl rfl rfl rfl rfl ⟨rfl, rfl, rfl, rfl, rfl⟩ rfl rfl rfl rfl rfl fnamed Tryz.func5 joined
  (of_decide_eq_true (by as_aux_lemma => kernel_rfl)) (by unfold Func.isWrapper; first | (rw [if_pos (by decide +kernel)]; kernel_rfl) | (rw [if_neg (by decide +kernel)]; exact ⟨rfl, rfl⟩))
  (fun os started H enc _ => lifted os started H enc)
theorem proved : Rows.ConsoleBackCardSaid :=
 Claim7.holds_tied_plain_at .later [] [.sentinel, .sentinel, .data, .data, .data, .data, .listed, .pinned, .data, .pinned] true (true, "6f8dc262c007ab9449760b7b96ab71612de9c99420d6719daf872c8b8ac488ee") true
  row_holds (fun _ h => by cases h) (by as_aux_lemma => kernel_rfl) (fun _ h => by cases h) consoleBack_row_tie rfl ⟨rfl, rfl⟩ (by as_aux_lemma => kernel_rfl) rfl
  (fun f fn hf hfn => by
   obtain rfl : f = 5 := Option.some.inj (fnamed.symm.trans hf) |>.symm
   obtain rfl : fn = Tryz.f5 := (Option.some.inj (Tryz.func5.symm.trans hfn)).symm
   exact ⟨by kernel_rfl, fun j t ht => by
    rw [Tryz.params5] at ht
    have hm : t ∈ [26, 9] := by simpa using Array.mem_of_getElem? ht
    have hall : ([26, 9].all fun u => !Tryz.prog.wantsStandIn u) = true := by kernel_rfl
    exact (show Tryz.prog.wantsStandIn t = false by simpa using List.all_eq_true.1 hall t hm)⟩)
  goes
#print axioms proved
end Go.Proofs.YthkegfdijohpaaaGreatDoor.consoleBack
