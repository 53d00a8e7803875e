/- A slice that reads as a list of cells: what stays of it when memory is made, and where it comes from. -/
import Derived.Test.YtcoakhahjdnlfaaDoorLtW
import Derived.Laws.AppendOwn
namespace Go.Proofs.YtcoakhahjdnlfaaDoor
set_option linter.all false
open Go.RowKit
/-- the slice v of n elements, each of size cells, reads as the cells xs -/
def Reads (w : World) (v : Value) (n size : Nat) (xs : List Value) : Prop :=
  xs.length = n * size ∧ ((n = 0 ∧ ∃ a cap, v = .slice a 0 cap ∧ cap ≤ maxLen) ∨ ∃ b off cap, v = .slice (some ⟨b, off, none⟩) n cap ∧ n ≤ cap ∧ cap ≤ maxLen ∧ b < w.heap.size ∧ ∀ j u, xs[j]? = some u → w.cell? ⟨b, off + j, none⟩ = some u)
theorem Reads.keep {w w' : World} {v : Value} {n size : Nat} {xs : List Value} (h : Reads w v n size xs) (hs : w.heap.size ≤ w'.heap.size) (hk : ∀ b o, b < w.heap.size → w'.cell? ⟨b, o, none⟩ = w.cell? ⟨b, o, none⟩) : Reads w' v n size xs := by
  refine ⟨h.1, ?_⟩
  rcases h.2 with h | ⟨b, off, cap, h1, h2, h3, h4, h5⟩
  · exact .inl h
  · exact .inr ⟨b, off, cap, h1, h2, h3, by omega, fun j u hu => by rw [hk b _ h4]; exact h5 j u hu⟩
theorem Reads.more {w : World} {v : Value} {n size : Nat} {xs : List Value} (h : Reads w v n size xs) (g : Came) : Reads (more w g) v n size xs :=
  h.keep (by simp [more_size]) fun b o hb => more_cell w g b o hb
theorem Reads.below {w w' : World} {v : Value} {n size : Nat} {xs : List Value} (h : Reads w v n size xs) (hb : Below w.heap.size w w') : Reads w' v n size xs :=
  h.keep hb.size fun b o h => hb.cell (p := ⟨b, o, none⟩) h
theorem Reads.alloc {w : World} {v : Value} {n size : Nat} {xs : List Value} (h : Reads w v n size xs) (o : Obj) : Reads (w.alloc o) v n size xs :=
  h.below ((Below.refl _ _).alloc (Nat.le_refl _) _)
theorem Reads.drew {w : World} {v : Value} {n size : Nat} {xs : List Value} (h : Reads w v n size xs) : Reads w.drew v n size xs :=
  h.below (Below.refl _ _).drew
theorem reads_nil (w : World) (size : Nat) : Reads w (.slice none 0 0) 0 size [] := ⟨by simp, .inl ⟨rfl, none, 0, rfl, by decide⟩⟩
theorem Reads.of_owns {w : World} {base : Nat} {e : TypeId} {v : Value} {n size : Nat} {xs : List Value} (h : w.ownsRow base e size v n xs) : Reads w v n size xs := by
  have hc := fun g => h.cells (g := g)
  refine ⟨h.1, ?_⟩
  rcases h.2 with ⟨rfl, rfl⟩ | ⟨g, cap, cur, rfl, _, hg, hn, hm, _⟩
  · exact .inl ⟨rfl, none, 0, rfl, by decide⟩
  · refine .inr ⟨g, 0, cap, rfl, hn, hm, (Array.getElem?_eq_some_iff.1 hg).1, fun j u hu => ?_⟩
    have := hc g rfl j u hu
    rwa [show (⟨g, 0, none⟩ : Addr).add j = ⟨g, 0 + j, none⟩ from by unfold Addr.add; split <;> simp_all] at this
/-- the cells of an element -/
theorem Reads.cell {w : World} {v : Value} {n size : Nat} {xs : List Value} {b off cap : Nat} (h : ∀ j u, xs[j]? = some u → w.cell? ⟨b, off + j, none⟩ = some u) {j : Nat} {u : Value} (hu : xs[j]? = some u) (o : Nat) (ho : o = off + j) : w.cell? ⟨b, o, none⟩ = some u := by
  subst ho; exact h j u hu
theorem more_alloc (w : World) (g : Came) (o : Obj) : (Go.Proofs.YtcoakhahjdnlfaaDoor.more w g).alloc o = Go.Proofs.YtcoakhahjdnlfaaDoor.more w ⟨g.o.push o, g.d⟩ := by
  simp [Go.Proofs.YtcoakhahjdnlfaaDoor.more, World.alloc, Array.push_append]
end Go.Proofs.YtcoakhahjdnlfaaDoor
