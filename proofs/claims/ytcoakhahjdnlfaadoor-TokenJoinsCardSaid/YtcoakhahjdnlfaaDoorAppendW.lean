/- append: a slice of the call's own, and behind it what a slice reads as. Conditions: lengths and bytes lie in their bounds. -/
import Derived.Test.YtcoakhahjdnlfaaDoorReadW
import Derived.Laws.OwnMore
import Derived.Laws.AppendOwnNone
import Derived.OwnWalk
namespace Go.Proofs.YtcoakhahjdnlfaaDoor
set_option linter.all false
open Go.RowKit
section
variable {P : Program} {w : World}
theorem run_append_none (base : Nat) (t ty e : TypeId) (i : TypeInfo) (size : Nat) (ht : P.underlying t = some (.slice e)) (hi : P.info? e = some i) (v : Value) (n : Nat) (xs : List Value) (hown : w.ownsRow base e size v n xs) (c : Nat) :
    (Builtin.append_ #[t, t] ty #[v, .slice none 0 c]).run P w = .ok v w := by
  rcases hown.2 with ⟨rfl, rfl⟩ | ⟨g, cap, cur, rfl, _, _, hnc, _⟩
  · simp [Builtin.append_, run_underlying ht, sizeOf, typeInfo, hi, Builtin.lenOf, Builtin.firstCells]
  · simp [Builtin.append_, run_underlying ht, sizeOf, typeInfo, hi, Builtin.lenOf, Builtin.firstCells, hnc, storeCells]
theorem run_append_reads (base : Nat) (t ty e : TypeId) (i : TypeInfo) (z : Value) (size bytes : Nat) (ht : P.underlying t = some (.slice e)) (hi : P.info? e = some i) (hz : i.zero = some z) (hsize : i.size = size) (hby : i.bytes = bytes) (hzs : z.cells.size = size) (hsz : 0 < size)
    (v : Value) (n : Nat) (xs : List Value) (hown : w.ownsRow base e size v n xs) (u : Value) (m : Nat) (ys : List Value) (hR : Reads w u m size ys) (h1 : ∀ x ∈ ys, x.oneCell' = true)
    (h63 : n + m ≤ maxLen) (hbytes : (n + m) * bytes ≤ 140737488355328) (hbase : base ≤ w.heap.size) :
    ∃ v' w', (Builtin.append_ #[t, t] ty #[v, u]).run P w = .ok v' w' ∧ w'.ownsRow base e size v' (n + m) (xs ++ ys) ∧ w.grownBy w' v.ownBlock := by
  have hrefl : w.grownBy w v.ownBlock := ⟨rfl, rfl, rfl, Nat.le_refl _, fun _ _ _ => rfl⟩
  have some_case : ∀ (a : Addr) (c : Nat), (∀ j x, ys[j]? = some x → w.cell? (a.add j) = some x) → u = .slice (some a) m c →
      ∃ v' w', (Builtin.append_ #[t, t] ty #[v, u]).run P w = .ok v' w' ∧ w'.ownsRow base e size v' (n + m) (xs ++ ys) ∧ w.grownBy w' v.ownBlock := by
    intro a c hc hu
    subst hu
    obtain ⟨v', w', h1', h2, h3, h4⟩ := run_append_own (P := P) w base t ty e i z size bytes ht hi hz hsize hby hzs hsz v n xs hown a m c ys hR.1 hc h1 h63 hbytes hbase
    exact ⟨v', w', h1', h2, h3⟩
  rcases hR.2 with ⟨hm0, a, c, hu, hc⟩ | ⟨b, off, cap, hu, h2, h3, h4, h5⟩
  · subst hm0
    have hy : ys = [] := List.eq_nil_of_length_eq_zero (by have := hR.1; omega)
    cases a with
    | none =>
      subst hu; subst hy
      exact ⟨v, w, run_append_none base t ty e i size ht hi v n xs hown c, by simpa using hown, hrefl⟩
    | some a => exact some_case a c (by subst hy; simp) hu
  · refine some_case ⟨b, off, none⟩ cap (fun j x hx => ?_) hu
    have := h5 j x hx
    unfold Addr.add
    split
    · rename_i h; rw [h] at this; exact this
    · exact this
theorem wpList_append_reads {ops : Array Oper} {rest : List Oper} {o : Oper} {a : Act} {Q : Exit → Act → World → Prop} (hgd : o.guard = none) (s x : Operand) (t : TypeId)
    (ho : o.op = .call { callee := .builtin .append, args := #[s, x], argTypes := #[t, t] })
    (base : Nat) (e : TypeId) (i : TypeInfo) (z : Value) (size bytes : Nat) (ht : P.underlying t = some (.slice e)) (hi : P.info? e = some i) (hz : i.zero = some z) (hsize : i.size = size) (hby : i.bytes = bytes) (hzs : z.cells.size = size) (hsz : 0 < size)
    (v : Value) (n : Nat) (xs : List Value) (hs : a.eval s = v) (hown : w.ownsRow base e size v n xs) (u : Value) (m : Nat) (ys : List Value) (hx : a.eval x = u) (hR : Reads w u m size ys) (h1 : ∀ x ∈ ys, x.oneCell' = true)
    (h63 : n + m ≤ maxLen) (hbytes : (n + m) * bytes ≤ 140737488355328) (hbase : base ≤ w.heap.size)
    (h : ∀ v' w', w'.ownsRow base e size v' (n + m) (xs ++ ys) → w.grownBy w' v.ownBlock → wpList P ops Q rest (a.put o.dst v') w') : wpList P ops Q (o :: rest) a w := by
  refine wpList_plain hgd fun K hK => ?_
  obtain ⟨v', w', hr, h2, h3⟩ := run_append_reads (P := P) base t o.type e i z size bytes ht hi hz hsize hby hzs hsz v n xs hown u m ys hR h1 h63 hbytes hbase
  unfold Oper.wp
  simp [execOp, ho, resolve, invoke, builtin, hs, hx, hr, Result.andThen]
  exact hK _ _ (h v' w' h2 h3)
end
/-- what grew in blocks from base on is as it was below base -/
theorem below_grown {base : Nat} {w0 w w' : World} {row : Option Nat} (hb : Below base w0 w) (hw : base ≤ w.heap.size) (hg : w.grownBy w' row) (hrow : ∀ k, row = some k → base ≤ k) : Below base w0 w' :=
  hb.trans ⟨hg.os, hg.tape, hg.output, hg.size, fun k hk => hg.block k (by omega) (fun e => by have := hrow k e.symm; omega)⟩
theorem owns_rows {w : World} {base : Nat} {e : TypeId} {size : Nat} {v : Value} {n : Nat} {xs : List Value} (h : w.ownsRow base e size v n xs) : ∀ k, v.ownBlock = some k → base ≤ k := fun k hk => (h.lt k hk).1
/-- the cells that a text lays for one append -/
theorem reads_lit (w : World) (cs : Array Value) (e : TypeId) (n size : Nat) (hm : n ≤ maxLen) (hs : cs.size = n * size) : Reads (w.alloc (.cells cs e)) (.slice (some ⟨w.heap.size, 0, none⟩) n n) n size cs.toList :=
  Reads.of_owns (World.ownsRow_lit (base := w.heap.size) (e := e) w cs n (Nat.le_refl _) hm hs)
theorem owns_empty (w : World) (base : Nat) (e : TypeId) (size : Nat) (hb : base ≤ w.heap.size) : (w.alloc (.cells #[] e)).ownsRow base e size (.slice (some ⟨w.heap.size, 0, none⟩) 0 0) 0 [] :=
  World.ownsRow_made w #[] 0 hb (by decide) (by simp)
end Go.Proofs.YtcoakhahjdnlfaaDoor
