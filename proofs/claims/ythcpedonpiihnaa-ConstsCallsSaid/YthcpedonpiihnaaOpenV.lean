/- Arguments that are slices of constants or of pairs, opened as lists. Conditions: none. -/
import Derived.Test.YthcpedonpiihnaaOpen2W
import Derived.Test.YthcpedonpiihnaaLargeW
namespace Go.Proofs.Ythcpedonpiihnaa
set_option linter.all false
open Go.ChangeShapes Go.WideShapes Go.ChangeAt Go.RowKit Go.Joins Go.Deep
section
variable {H : Type} {enc : TypeId × Value → H} {w : World} {base : Nat} {spare : Nat → Bool} {held : Bool}
def VaFit (v : Va) : Prop := -9223372036854775808 ≤ v.2.1 ∧ v.2.1 < 9223372036854775808 ∧ v.2.2.size ≤ maxLen
set_option maxRecDepth 100000 in
theorem open_vals {r : Reach} {b0 : Nat} {v : Value} {d : DataW H} {p : List MemPlace} (hv : Value.okWide Try.prog w r b0 65 v) (h : DataW.Trod enc Try.prog w base spare held 65 v d p) :
    ∃ xs : List Va, Reads w v xs.length 3 (valCells xs) ∧ ∀ x ∈ xs, VaFit x := by
  refine open_reads (size := 3) (fun x : Va => [.int .i64 x.1, .int .i64 x.2.1, .string x.2.2]) VaFit Try.underlying65 (by kernel_rfl) (by omega) ?_ (fun _ => by simp) hv h
  intro cs n y hl ht
  match cs, hl with
  | [c0, c1, c2], _ =>
    obtain ⟨n', y0, y1, y2, h0, h1, h2⟩ := trod_struct3 Try.underlying23 (by kernel_rfl) ht
    obtain ⟨f, hcf, -, wf⟩ := DataW.trod_int Try.underlying3 h0
    obtain ⟨k, hck, -, wk⟩ := DataW.trod_int Try.underlying3 h1
    obtain ⟨s, hcs, -, ws⟩ := DataW.trod_string Try.underlying9 h2
    simp at hcf hck hcs
    subst hcf hck hcs
    exact ⟨(f, k, s), ⟨Bd.i64_0 wk, Bd.i64_1 wk, ws⟩, rfl⟩
set_option maxRecDepth 100000 in
theorem open_pairs {r : Reach} {b0 : Nat} {v : Value} {d : DataW H} {p : List MemPlace} (hv : Value.okWide Try.prog w r b0 33 v) (h : DataW.Trod enc Try.prog w base spare held 33 v d p) :
    ∃ xs : List (Int × Int), Reads w v xs.length 2 (pairCells xs) ∧ ∀ x ∈ xs, True := by
  refine open_reads (size := 2) (fun x : Int × Int => [.int .i64 x.1, .int .i64 x.2]) (fun _ => True) Try.underlying33 (by kernel_rfl) (by omega) ?_ (fun _ => by simp) hv h
  intro cs n y hl ht
  obtain ⟨ys, n', rfl, -, -, hyl, hf⟩ := DataW.trod_array Try.underlying54 ht
  match cs, hl with
  | [c0, c1], _ =>
    have h0 := hf 0 (by decide)
    have h1 := hf 1 (by decide)
    rw [show Program.cellsOf Try.prog 3 = 1 from by kernel_rfl] at h0 h1
    simp only [Nat.zero_mul, Nat.one_mul, List.drop_zero, List.drop_succ_cons, List.take_succ_cons, List.take_zero] at h0 h1
    obtain ⟨y0, e0⟩ : ∃ y, ys[0]? = some y := ⟨_, List.getElem?_eq_getElem (by omega)⟩
    obtain ⟨y1, e1⟩ : ∃ y, ys[1]? = some y := ⟨_, List.getElem?_eq_getElem (by omega)⟩
    obtain ⟨f, hcf, -, wf⟩ := DataW.trod_int Try.underlying3 (h0.trans e0)
    obtain ⟨k, hck, -, wk⟩ := DataW.trod_int Try.underlying3 (h1.trans e1)
    simp at hcf hck
    subst hcf hck
    exact ⟨(f, k), trivial, rfl⟩
end
end Go.Proofs.Ythcpedonpiihnaa
