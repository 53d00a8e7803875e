/- The walk of the law ArithConsts. Conditions: numbers lie in their bounds. -/
import Derived.Test.YthcpedonpiihnaaArcP
import Derived.Test.YthcpedonpiihnaaAppendW
import Derived.Test.YthcpedonpiihnaaArithT
import Derived.Test.YthcpedonpiihnaaLt3W
import Derived.RegionTactic
namespace Go.Proofs.Ythcpedonpiihnaa
set_option linter.all false
open Go.RowKit
theorem info_valu : (Try.prog.info? 23).map (fun i => (i.zero, i.size, i.bytes)) = some (some (.agg #[.int .i64 0, .int .i64 0, .string ⟨#[]⟩]), 3, 32) := by kernel_rfl
theorem owns_under {w w' : World} {base : Nat} {e : TypeId} {size : Nat} {v : Value} {n : Nat} {xs : List Value} (h : w.ownsRow base e size v n xs) (hb : Below w.heap.size w w') : w'.ownsRow base e size v n xs :=
  h.kept (row := none) ⟨hb.os, hb.tape, hb.output, hb.size, fun k hk _ => hb.block k hk⟩ (by cases hv : v.ownBlock <;> simp)
theorem reads_litp (w : World) (p : Nat) (cs : Array Value) (e : TypeId) (n size : Nat) (hm : n ≤ maxLen) (hs : cs.size = n * size) (hp : p = w.heap.size) : Reads (w.alloc (.cells cs e)) (.slice (some ⟨p, 0, none⟩) n n) n size cs.toList := by
  subst hp; exact reads_lit w cs e n size hm hs
theorem owns_litp (w : World) (base p : Nat) (cs : Array Value) (e : TypeId) (n size : Nat) (hb : base ≤ w.heap.size) (hm : n ≤ maxLen) (hs : cs.size = n * size) (hp : p = w.heap.size) : (w.alloc (.cells cs e)).ownsRow base e size (.slice (some ⟨p, 0, none⟩) n n) n cs.toList := by
  subst hp; exact World.ownsRow_lit w cs n hb hm hs
end Go.Proofs.Ythcpedonpiihnaa
