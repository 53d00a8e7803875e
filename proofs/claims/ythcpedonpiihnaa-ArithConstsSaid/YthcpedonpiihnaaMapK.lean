/- A map whose keys are a struct of two numbers and a word: its keys, laying a new entry, looking one up. Conditions: numbers fit their kind, a word is no longer than a string may be. -/
import Derived.Test.YthcpedonpiihnaaMapW
import Derived.DeepKeys4
import Derived.Maps.Keyed
namespace Go.Proofs.Ythcpedonpiihnaa
set_option linter.unusedSimpArgs false
set_option linter.unusedVariables false
open Go.RowKit
theorem laidOutK : laidOutB Try.prog = true := by kernel_rfl
theorem key_law : Maps.Keyed Try.prog 79 := Maps.Keyed.of_law (deep_law_laid laidOutK (m := 100) (by decide) (of_decide_eq_true (by kernel_rfl)) (by kernel_rfl) (by kernel_rfl))
/-- the key of a cell of the table -/
def ky (a b : Int) (s : ByteArray) : Value := .agg #[.int .i64 a, .int .i64 b, .string s]
theorem ky_inj {a b a' b' : Int} {s s' : ByteArray} (h : ky a b s = ky a' b' s') : a = a' ∧ b = b' ∧ s = s' := by
  simpa [ky] using h
theorem kt : Try.prog.keyType 79 = true := by kernel_rfl
theorem kc : Try.prog.cellsOf 79 = 3 := by kernel_rfl
theorem kc3 : Try.prog.cellsOf 3 = 1 := by kernel_rfl
theorem kc9 : Try.prog.cellsOf 9 = 1 := by kernel_rfl
theorem ks : ∃ n, Try.prog.types.size + 1 = n + 2 := by
  have h : 2 ≤ Try.prog.types.size := of_decide_eq_true (by kernel_rfl)
  exact ⟨Try.prog.types.size - 1, by omega⟩
theorem ky_key (a b : Int) (s : ByteArray) (ha : (Lit.int .i64 a).wf = true) (hb : (Lit.int .i64 b).wf = true) (hs : s.size ≤ maxLen) : ∃ l, keyOf Try.prog 79 (ky a b s) = some l := by
  obtain ⟨n, hn⟩ := ks
  unfold keyOf ky
  rw [Try.underlying79, hn]
  simp only [kt, Value.formed, Try.underlying79, kc, Program.keyLits, Value.cells]
  simp [Try.underlying3, Try.underlying9, kc3, kc9, ha, hb, hs]
/-- the world with another map in block b -/
def setMap (W : World) (b : Nat) (es : Array MapEntry) (c : Nat) : World := { W with heap := W.heap.setIfInBounds b (.map es c) }
theorem run_put (W : World) (b : Nat) (es : Array MapEntry) (c : Nat) (key v : Value) (hb : W.heap[b]? = some (.map es c)) (hk : ∃ l, keyOf Try.prog 79 key = some l)
    (hes : ∀ e ∈ es.toList, ∃ l, keyOf Try.prog 79 e.key = some l) (hnew : ∀ e ∈ es.toList, e.key ≠ key) :
    (Instr.mapUpdate 71 (.map (some b)) key v).run Try.prog W = .ok () (setMap W b (es.push { key, val := v, born := c }) (c + 1)) := by
  obtain ⟨l, hl⟩ := hk
  have hc := key_law.check W false hl
  rcases key_law.find W hl es.toList hes with ⟨h1, _⟩ | ⟨j, e, _, h2, h3⟩
  · simp [Instr.mapUpdate, run_underlying Try.underlying71, MapKept.run_getObj_map hb, hc, h1, MapKept.run_setObj_map _ hb]
    rfl
  · exact absurd h3 (hnew e (List.mem_of_getElem? h2))
theorem run_find (W : World) (b : Nat) (es : Array MapEntry) (c : Nat) (key : Value) (hb : W.heap[b]? = some (.map es c)) (hk : ∃ l, keyOf Try.prog 79 key = some l)
    (hes : ∀ e ∈ es.toList, ∃ l, keyOf Try.prog 79 e.key = some l) :
    ((Instr.lookup 71 (.map (some b)) key true).run Try.prog W = .ok (.tuple #[.nilFunc, .bool false]) W ∧ ∀ e ∈ es.toList, e.key ≠ key) ∨
    ∃ e ∈ es.toList, e.key = key ∧ (Instr.lookup 71 (.map (some b)) key true).run Try.prog W = .ok (.tuple #[e.val, .bool true]) W := by
  obtain ⟨l, hl⟩ := hk
  have hc := fun em => key_law.check W em hl
  have hz : (zeroValue 77).run Try.prog W = .ok .nilFunc W := by kernel_rfl
  rcases key_law.find W hl es.toList hes with ⟨h1, h2⟩ | ⟨j, e, h1, h2, h3⟩
  · exact .inl ⟨by simp [Instr.lookup, run_underlying Try.underlying71, MapKept.run_getObj_map hb, hc, h1, hz], h2⟩
  · exact .inr ⟨e, List.mem_of_getElem? h2, h3, by simp [Instr.lookup, run_underlying Try.underlying71, MapKept.run_getObj_map hb, hc, h1]⟩
section
variable (W : World) (b : Nat) (es : Array MapEntry) (c : Nat)
theorem setMap_at (h : b < W.heap.size) : (setMap W b es c).heap[b]? = some (.map es c) := by simp [setMap, h]
theorem setMap_block (k : Nat) (h : k ≠ b) : (setMap W b es c).heap[k]? = W.heap[k]? := by simp [setMap, Ne.symm h]
@[go_sem] theorem setMap_size : (setMap W b es c).heap.size = W.heap.size := by simp [setMap]
@[go_sem] theorem setMap_cell (k i : Nat) (h : k ≠ b) : (setMap W b es c).cell? ⟨k, i, none⟩ = W.cell? ⟨k, i, none⟩ := World.cell?_of_block (w := W) (setMap_block W b es c k h)
@[go_sem] theorem setMap_frozen (k i : Nat) (h : k ≠ b) : (setMap W b es c).frozen? ⟨k, i, none⟩ = W.frozen? ⟨k, i, none⟩ := World.frozen?_of_block (w := W) (setMap_block W b es c k h)
theorem below_setMap {B : Nat} {a : World} (h : Below B a W) (hB : B ≤ b) : Below B a (setMap W b es c) :=
  h.trans ⟨rfl, rfl, rfl, by simp [setMap], fun k hk => setMap_block W b es c k (by omega)⟩
end
end Go.Proofs.Ythcpedonpiihnaa
