/- A map of words whose every value is 1: laying a new word, looking one up. Conditions: the word is new. -/
import Derived.Test.YtcoakhahjdnlfaaDoorTokU
import Derived.Test.YtcoakhahjdnlfaaDoorMoreW
import Derived.Deep.DeepCutAuto
import Derived.Deep.RegionWith
import Derived.MapKept
namespace Go.Proofs.YtcoakhahjdnlfaaDoor
set_option linter.all false
open Go.RowKit
/-- the map in block b has the words ws, each with the value 1 -/
def KeysIn (w : World) (b : Nat) (ws : List (List UInt8)) : Prop :=
  ∃ es c, w.heap[b]? = some (.map es c) ∧ es.toList.map (fun e => (e.key, e.val)) = ws.map (fun l => (Value.string ⟨l.toArray⟩, Value.int .i64 1))
theorem KeysIn.lt {w : World} {b : Nat} {ws : List (List UInt8)} (h : KeysIn w b ws) : b < w.heap.size := by
  obtain ⟨es, c, h, _⟩ := h
  exact (Array.getElem?_eq_some_iff.1 h).1
theorem KeysIn.keep {w w' : World} {b : Nat} {ws : List (List UInt8)} (h : KeysIn w b ws) (hb : w'.heap[b]? = w.heap[b]?) : KeysIn w' b ws := by
  obtain ⟨es, c, h1, h2⟩ := h
  exact ⟨es, c, hb.trans h1, h2⟩
theorem KeysIn.more {w : World} {b : Nat} {ws : List (List UInt8)} (h : KeysIn w b ws) (g : Came) : KeysIn (more w g) b ws := h.keep (more_block w g b h.lt)
theorem KeysIn.below {w w' : World} {b B : Nat} {ws : List (List UInt8)} (h : KeysIn w b ws) (hb : Below B w w') (hB : b < B) : KeysIn w' b ws := h.keep (hb.block b hB)
theorem bytes_self (s : ByteArray) : (⟨s.data.toList.toArray⟩ : ByteArray) = s := by cases s; simp
theorem keys_entry {es : Array MapEntry} {ws : List (List UInt8)} (h : es.toList.map (fun e => (e.key, e.val)) = ws.map (fun l => (Value.string ⟨l.toArray⟩, Value.int .i64 1))) {e : MapEntry} (he : e ∈ es.toList) :
    ∃ l ∈ ws, e.key = .string ⟨l.toArray⟩ ∧ e.val = .int .i64 1 := by
  have : (e.key, e.val) ∈ es.toList.map (fun e => (e.key, e.val)) := List.mem_map.2 ⟨e, he, rfl⟩
  rw [h] at this
  obtain ⟨l, hl, he⟩ := List.mem_map.1 this
  simp only [Prod.mk.injEq] at he
  exact ⟨l, hl, he.1.symm, he.2.symm⟩
theorem keys_mem {es : Array MapEntry} {ws : List (List UInt8)} (h : es.toList.map (fun e => (e.key, e.val)) = ws.map (fun l => (Value.string ⟨l.toArray⟩, Value.int .i64 1))) {l : List UInt8} (hl : l ∈ ws) :
    ∃ e ∈ es.toList, e.key = .string ⟨l.toArray⟩ := by
  have : (Value.string ⟨l.toArray⟩, Value.int .i64 1) ∈ ws.map (fun l => (Value.string ⟨l.toArray⟩, Value.int .i64 1)) := List.mem_map.2 ⟨l, hl, rfl⟩
  rw [← h] at this
  obtain ⟨e, he, h'⟩ := List.mem_map.1 this
  simp only [Prod.mk.injEq] at h'
  exact ⟨e, he, h'.1⟩
theorem bytes_inj {l : List UInt8} {s : ByteArray} (h : Value.string ⟨l.toArray⟩ = Value.string s) : l = s.data.toList := by
  simp only [Value.string.injEq] at h
  rw [← h]
section
variable {P : Program} {t k e : TypeId}
theorem run_keys_look {w : World} {b : Nat} {ws : List (List UInt8)} (h : KeysIn w b ws) (ht : P.underlying t = some (.map k e)) (hk : P.underlying k = some .string) (hz : (zeroValue e).run P w = .ok (.int .i64 0) w) (s : ByteArray) :
    (Instr.lookup t (.map (some b)) (.string s) false).run P w = .ok (.int .i64 (if s.data.toList ∈ ws then 1 else 0)) w := by
  obtain ⟨es, c, hb, he⟩ := h
  have hkey : MapKept.IsKey .string (.string s) := trivial
  rcases MapKept.findNow_spec hkey es.toList 0 (fun x hx => by obtain ⟨l, _, h1, _⟩ := keys_entry he hx; rw [h1]; trivial) with ⟨h1, h2⟩ | ⟨j, x, h1, h2, h3⟩
  · rw [if_neg (fun hm => by
      obtain ⟨x, hx, hx2⟩ := keys_mem he hm
      exact h2 x hx (by rw [hx2, bytes_self]))]
    simp [Instr.lookup, run_underlying ht, MapKept.run_getObj_map hb, MapKept.run_checkKey hk hkey, MapKept.run_findKey hk h1, hz]
  · obtain ⟨l, hl, h4, h5⟩ := keys_entry he (List.mem_of_getElem? h2)
    rw [if_pos (by rw [← bytes_inj (h4.symm.trans h3)]; exact hl)]
    rw [h5] at h1
    simp [Instr.lookup, run_underlying ht, MapKept.run_getObj_map hb, MapKept.run_checkKey hk hkey, MapKept.run_findKey hk h1]
/-- the world with another map in block b -/
def setMapS (W : World) (b : Nat) (es : Array MapEntry) (c : Nat) : World := { W with heap := W.heap.setIfInBounds b (.map es c) }
theorem setMapS_at (W : World) (b : Nat) (es : Array MapEntry) (c : Nat) (h : b < W.heap.size) : (setMapS W b es c).heap[b]? = some (.map es c) := by simp [setMapS, h]
theorem setMapS_block (W : World) (b : Nat) (es : Array MapEntry) (c : Nat) (k : Nat) (h : k ≠ b) : (setMapS W b es c).heap[k]? = W.heap[k]? := by simp [setMapS, Ne.symm h]
theorem below_setMapS {W : World} {b : Nat} {es : Array MapEntry} {c : Nat} {B : Nat} {a : World} (h : Below B a W) (hB : B ≤ b) : Below B a (setMapS W b es c) :=
  h.trans ⟨rfl, rfl, rfl, by simp [setMapS], fun k hk => setMapS_block W b es c k (by omega)⟩
theorem run_keys_put {w : World} {b : Nat} {ws : List (List UInt8)} (h : KeysIn w b ws) (ht : P.underlying t = some (.map k e)) (hk : P.underlying k = some .string) {s : ByteArray} {l : List UInt8} (hs : s = ⟨l.toArray⟩) (hl : l ∉ ws) :
    ∃ w', (Instr.mapUpdate t (.map (some b)) (.string s) (.int .i64 1)).run P w = .ok () w' ∧ KeysIn w' b (ws ++ [l]) ∧ w'.heap.size = w.heap.size ∧ (∀ k, k ≠ b → w'.heap[k]? = w.heap[k]?) ∧ Below b w w' := by
  have hlt := h.lt
  obtain ⟨es, c, hb, he⟩ := h
  have hkey : MapKept.IsKey .string (.string s) := trivial
  rcases MapKept.findNow_spec hkey es.toList 0 (fun x hx => by obtain ⟨l, _, h1, _⟩ := keys_entry he hx; rw [h1]; trivial) with ⟨h1, h2⟩ | ⟨j, x, h1, h2, h3⟩
  · refine ⟨setMapS w b (es.push { key := .string s, val := .int .i64 1, born := c }) (c + 1), ?_, ⟨_, _, setMapS_at _ _ _ _ hlt, by simp [he, hs]⟩, by simp [setMapS], fun k hk => setMapS_block _ _ _ _ _ hk, below_setMapS (Below.refl _ _) (Nat.le_refl _)⟩
    simp [Instr.mapUpdate, run_underlying ht, MapKept.run_getObj_map hb, MapKept.run_checkKey hk hkey, MapKept.run_findKey hk h1, MapKept.run_setObj_map _ hb]
    rfl
  · exfalso
    obtain ⟨l', hl', h4, _⟩ := keys_entry he (List.mem_of_getElem? h2)
    have := bytes_inj (h4.symm.trans h3)
    apply hl
    rw [hs] at this
    simp at this
    rw [← this]; exact hl'
end
/-- a look-up of a word -/
theorem wpList_keys_look {P : Program} {ops : Array Oper} {rest : List Oper} {o : Oper} {Q : Exit → Act → World → Prop} {a : Act} {W : World} (hgd : o.guard = none) (m kx : Operand) (t : TypeId) (ho : o.op = .lookup t m kx false)
    {r : Nat} {k e : TypeId} {ws : List (List UInt8)} {s : ByteArray} (h : KeysIn W r ws) (hm : a.eval m = .map (some r)) (hx : a.eval kx = .string s) (ht : P.underlying t = some (.map k e)) (hk : P.underlying k = some .string) (hz : (zeroValue e).run P W = .ok (.int .i64 0) W)
    {n : Int} (hn : (if s.data.toList ∈ ws then 1 else 0) = n) (hK : wpList P ops Q rest (a.put o.dst (.int .i64 n)) W) : wpList P ops Q (o :: rest) a W := by
  refine wpList_plain hgd (fun K hK' => ?_)
  have hr := run_keys_look h ht hk hz s
  rw [hn] at hr
  unfold Oper.wp
  simp [execOp, ho, hm, hx, hr, Result.andThen]
  exact hK' _ _ hK
/-- a new word is laid -/
theorem wpList_keys_put {P : Program} {ops : Array Oper} {rest : List Oper} {o : Oper} {Q : Exit → Act → World → Prop} {a : Act} {W : World} (hgd : o.guard = none) (m kx vx : Operand) (t : TypeId) (ho : o.op = .mapUpdate t m kx vx)
    {r : Nat} {k e : TypeId} {ws : List (List UInt8)} {s : ByteArray} {l : List UInt8} (h : KeysIn W r ws) (hm : a.eval m = .map (some r)) (hx : a.eval kx = .string s) (hv : a.eval vx = .int .i64 1) (ht : P.underlying t = some (.map k e)) (hk : P.underlying k = some .string) (hs : s = ⟨l.toArray⟩) (hl : l ∉ ws)
    (hn : ∀ W', KeysIn W' r (ws ++ [l]) → W'.heap.size = W.heap.size → (∀ k, k ≠ r → W'.heap[k]? = W.heap[k]?) → Below r W W' → wpList P ops Q rest (a.put o.dst undef) W') : wpList P ops Q (o :: rest) a W := by
  refine wpList_plain hgd (fun K hK' => ?_)
  obtain ⟨W', hr, h1, h2, h3, h4⟩ := run_keys_put h ht hk hs hl
  unfold Oper.wp
  simp [execOp, ho, hm, hx, hv, hr, Result.andThen]
  exact hK' _ _ (hn W' h1 h2 h3 h4)
end Go.Proofs.YtcoakhahjdnlfaaDoor
