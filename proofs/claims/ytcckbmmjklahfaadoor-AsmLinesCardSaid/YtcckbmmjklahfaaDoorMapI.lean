/- A map that a call makes, its entries known in order: laying a new entry by an assignment of several values (the entry first, the store behind), by a plain one, looking one up. Conditions: the key reads as a key; it is new, or it is there. -/
import Derived.Test.YtcckbmmjklahfaaDoorMoreW
import Derived.Test.YtcckbmmjklahfaaDoorChecked
import Derived.MapKept
import Derived.DeepKeys4
import Derived.Maps.Keyed
namespace Go.Proofs.YtcckbmmjklahfaaDoor
set_option linter.all false
open Go.RowKit
/-- the map in block b has the entries l, in the order in which they were laid -/
def MapIs (w : World) (b : Nat) (l : List (Value × Value)) : Prop :=
  ∃ es c, w.heap[b]? = some (.map es c) ∧ es.toList.map (fun e => (e.key, e.val)) = l ∧ ∀ e ∈ es.toList, e.born < c
/-- the world with another map in block b -/
def putMap (W : World) (b : Nat) (es : Array MapEntry) (c : Nat) : World := { W with heap := W.heap.setIfInBounds b (.map es c) }
section
variable (W : World) (b : Nat) (es : Array MapEntry) (c : Nat)
theorem putMap_at (h : b < W.heap.size) : (putMap W b es c).heap[b]? = some (.map es c) := by simp [putMap, h]
theorem putMap_block (k : Nat) (h : k ≠ b) : (putMap W b es c).heap[k]? = W.heap[k]? := by simp [putMap, Ne.symm h]
theorem putMap_size : (putMap W b es c).heap.size = W.heap.size := by simp [putMap]
theorem below_putMap {B : Nat} {a : World} (h : Below B a W) (hB : B ≤ b) : Below B a (putMap W b es c) :=
  h.trans ⟨rfl, rfl, rfl, by simp [putMap], fun k hk => putMap_block W b es c k (by omega)⟩
end
theorem MapIs.lt {w : World} {b : Nat} {l : List (Value × Value)} (h : MapIs w b l) : b < w.heap.size := by
  obtain ⟨es, c, h, _⟩ := h
  exact (Array.getElem?_eq_some_iff.1 h).1
theorem MapIs.keep {w w' : World} {b : Nat} {l : List (Value × Value)} (h : MapIs w b l) (hb : w'.heap[b]? = w.heap[b]?) : MapIs w' b l := by
  obtain ⟨es, c, h1, h2⟩ := h
  exact ⟨es, c, hb.trans h1, h2⟩
theorem MapIs.below {w w' : World} {b B : Nat} {l : List (Value × Value)} (h : MapIs w b l) (hb : Below B w w') (hB : b < B) : MapIs w' b l := h.keep (hb.block b hB)
theorem mapIs_made (w : World) : MapIs (w.alloc (.map #[] 0)) w.heap.size [] := ⟨#[], 0, (MapKept.heap_alloc w _).1, rfl, by simp⟩
theorem findIdx_last (es : Array MapEntry) (c : Nat) (x : MapEntry) (hx : x.born = c) (h : ∀ e ∈ es.toList, e.born < c) : (es.push x).findIdx? (fun e => ((e.born : Nat) : Int) == ((c : Nat) : Int)) = some es.size := by
  rw [Array.findIdx?_eq_some_iff_getElem]
  refine ⟨by simp, by simp [hx], fun j hj => ?_⟩
  rw [Array.getElem_push_lt hj]
  have := h es[j] (by simp)
  simp; omega
theorem modLast {α : Type} (f : α → α) (a : α) : ∀ l : List α, (l ++ [a]).modify l.length f = l ++ [f a]
  | [] => rfl
  | b :: r => by simp [List.modify_succ_cons, modLast f a r]
section
variable {P : Program} {t k e : TypeId}
/-- a new entry, laid as an assignment of several values lays it: the entry, and behind it the store -/
theorem map_put (K : Maps.Keyed P k) (ht : P.underlying t = some (.map k e)) {z : Value} (hz : ∀ u : World, (zeroValue e).run P u = .ok z u) {w : World} {b : Nat} {l : List (Value × Value)} (h : MapIs w b l)
    {key : Value} {kl : Lit} (hkey : keyOf P k key = some kl) (hkeys : ∀ x ∈ l, ∃ kx, keyOf P k x.1 = some kx) (hnew : ∀ x ∈ l, x.1 ≠ key) (v : Value) :
    ∃ (st : Int) (Wa Wb : World), (Instr.mapEntry t (.map (some b)) key).run P w = .ok (.tuple #[z, .int .i64 st]) Wa ∧ (Instr.entryStore t (.map (some b)) (.int .i64 st) v).run P Wa = .ok () Wb ∧ MapIs Wb b (l ++ [(key, v)]) ∧
      Wa.heap.size = w.heap.size ∧ Wb.heap.size = w.heap.size ∧ (∀ k, k ≠ b → Wa.heap[k]? = w.heap[k]?) ∧ (∀ k, k ≠ b → Wb.heap[k]? = w.heap[k]?) ∧ (∀ B, B ≤ b → Below B w Wa) ∧ (∀ B, B ≤ b → Below B w Wb) := by
  have hlt := h.lt
  obtain ⟨es, c, hb, he, hs⟩ := h
  have hes : ∀ x ∈ es.toList, ∃ kx, keyOf P k x.key = some kx := fun x hx => hkeys (x.key, x.val) (by rw [← he]; exact List.mem_map.2 ⟨x, hx, rfl⟩)
  rcases K.find w hkey es.toList hes with ⟨h1, _⟩ | ⟨j, e0, _, h2, h3⟩
  · refine ⟨c, putMap w b (es.push ⟨key, z, c⟩) (c + 1), putMap w b (es.push ⟨key, v, c⟩) (c + 1), ?_, ?_, ⟨_, _, putMap_at _ _ _ _ hlt, ?_, ?_⟩, putMap_size .., putMap_size .., fun k hk => putMap_block _ _ _ _ k hk, fun k hk => putMap_block _ _ _ _ k hk,
      fun B hB => below_putMap _ _ _ _ (Below.refl _ _) hB, fun B hB => below_putMap _ _ _ _ (Below.refl _ _) hB⟩
    · simp [Instr.mapEntry, run_underlying ht, MapKept.run_getObj_map hb, K.check w false hkey, h1, hz, MapKept.run_setObj_map _ hb, Result.andThen, putMap, goInt]
    · have hw2 := putMap_at w b (es.push ⟨key, z, c⟩) (c + 1) hlt
      have hidx := findIdx_last es c ⟨key, z, c⟩ rfl hs
      have hmod : (es.push ⟨key, z, c⟩).modify es.size (fun e => { e with val := v }) = es.push ⟨key, v, c⟩ := by
        apply Array.ext'
        rw [Array.toList_modify, Array.toList_push, Array.toList_push, ← Array.length_toList, modLast]
      simp [Instr.entryStore, MapKept.run_getObj_map hw2, asInt, asIntOf, hidx, hmod, MapKept.run_setObj_map _ hw2, Result.andThen]
      simp [putMap]
    · rw [Array.toList_push, List.map_append, he]; rfl
    · intro x hx
      rw [Array.toList_push] at hx
      rcases List.mem_append.1 hx with hx | hx
      · have := hs x hx; omega
      · simp at hx; subst hx; simp
  · exfalso
    exact hnew (e0.key, e0.val) (by rw [← he]; exact List.mem_map.2 ⟨e0, List.mem_of_getElem? h2, rfl⟩) h3
/-- a look-up at a key that is there, or is not -/
theorem map_look (K : Maps.Keyed P k) (ht : P.underlying t = some (.map k e)) {z : Value} (hz : ∀ u : World, (zeroValue e).run P u = .ok z u) {w : World} {b : Nat} {l : List (Value × Value)} (h : MapIs w b l)
    {key : Value} {kl : Lit} (hkey : keyOf P k key = some kl) (hkeys : ∀ x ∈ l, ∃ kx, keyOf P k x.1 = some kx) (ok : Bool) :
    ((∀ x ∈ l, x.1 ≠ key) ∧ (Instr.lookup t (.map (some b)) key ok).run P w = .ok (if ok then .tuple #[z, .bool false] else z) w) ∨
    ∃ v, (key, v) ∈ l ∧ (Instr.lookup t (.map (some b)) key ok).run P w = .ok (if ok then .tuple #[v, .bool true] else v) w := by
  obtain ⟨es, c, hb, he, hs⟩ := h
  have hes : ∀ x ∈ es.toList, ∃ kx, keyOf P k x.key = some kx := fun x hx => hkeys (x.key, x.val) (by rw [← he]; exact List.mem_map.2 ⟨x, hx, rfl⟩)
  have hc := fun em => K.check w em hkey
  rcases K.find w hkey es.toList hes with ⟨h1, h2⟩ | ⟨j, e0, h1, h2, h3⟩
  · refine .inl ⟨?_, ?_⟩
    · intro x hx
      rw [← he] at hx
      obtain ⟨y, hy, rfl⟩ := List.mem_map.1 hx
      exact h2 y hy
    · cases ok <;> simp [Instr.lookup, run_underlying ht, MapKept.run_getObj_map hb, hc, h1, hz]
  · refine .inr ⟨e0.val, ?_, ?_⟩
    · rw [← he, ← h3]
      exact List.mem_map.2 ⟨e0, List.mem_of_getElem? h2, rfl⟩
    · cases ok <;> simp [Instr.lookup, run_underlying ht, MapKept.run_getObj_map hb, hc, h1]
end
/-- a look-up as an operation of the walk -/
theorem wpList_map_look {P : Program} {ops : Array Oper} {rest : List Oper} {o : Oper} {Q : Exit → Act → World → Prop} {a : Act} {W : World} (hgd : o.guard = none) (m kx : Operand) (t : TypeId) (ok : Bool) (ho : o.op = .lookup t m kx ok)
    {b : Nat} {key v : Value} (hm : a.eval m = .map (some b)) (hx : a.eval kx = key) (hr : (Instr.lookup t (.map (some b)) key ok).run P W = .ok v W) (hK : wpList P ops Q rest (a.put o.dst v) W) : wpList P ops Q (o :: rest) a W := by
  refine wpList_plain hgd (fun K hK' => ?_)
  unfold Oper.wp
  simp [execOp, ho, hm, hx, hr, Result.andThen]
  exact hK' _ _ hK
end Go.Proofs.YtcckbmmjklahfaaDoor
