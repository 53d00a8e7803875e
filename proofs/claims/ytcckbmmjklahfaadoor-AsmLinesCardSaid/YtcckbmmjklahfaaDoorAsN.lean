/- The names of instructions as the program keeps them: two lists and two maps, and the walk of the closure that lays one more. Conditions: the name and the shape are new. -/
import Derived.Test.YtcckbmmjklahfaaDoorAsQ
import Derived.Test.YtcckbmmjklahfaaDoorMapI
import Derived.Test.YtcckbmmjklahfaaDoorAppendW
import Derived.Deep.RegionHeld3
import Derived.Deep.AppendLies
import Derived.Laws.EntriesVeiled
import Derived.OneCell
import Derived.Test.YtcckbmmjklahfaaDoorRegG
namespace Go.Proofs.YtcckbmmjklahfaaDoor
set_option linter.all false
open Go.RowKit
namespace As
def sv (k : Shape) : Value := .agg #[.int .i64 k.1, .int .i64 k.2.1, .bool k.2.2.1, .bool k.2.2.2]
def bv (l : List UInt8) : Value := .string ⟨l.toArray⟩
def scells (l : List (List UInt8 × Shape)) : List Value := l.map fun e => bv e.1
def kcell (k : Shape) : List Value := [.int .i64 k.1, .int .i64 k.2.1, .bool k.2.2.1, .bool k.2.2.2]
def kcells (l : List (List UInt8 × Shape)) : List Value := l.flatMap fun e => kcell e.2
def sents (l : List (List UInt8 × Shape)) : List (Value × Value) := l.zipIdx.map fun p => (sv p.1.2, .int .i64 (p.2 : Int))
def nents (l : List (List UInt8 × Shape)) : List (Value × Value) := l.zipIdx.map fun p => (bv p.1.1, .int .i64 (p.2 : Int))
/-- the program's names: block bN, its maps in b1 and b2 -/
structure Nm (w : World) (base bN b1 b2 : Nat) (vn vs : Value) (l : List (List UInt8 × Shape)) : Prop where
  bN0 : base ≤ bN
  b10 : base ≤ b1
  b20 : base ≤ b2
  ne : b1 ≠ b2
  cells : w.heap[bN]? = some (.cells #[vn, vs, .map (some b1), .map (some b2)] 45 (0, 0))
  own1 : w.ownsRow base 9 1 vn l.length (scells l)
  own2 : w.ownsRow base 47 4 vs l.length (kcells l)
  map1 : MapIs w b1 (sents l)
  map2 : MapIs w b2 (nents l)
/-- a block that the laying of a name leaves as it is -/
def Apart (w : World) (bN b1 b2 : Nat) (vn vs : Value) (k : Nat) : Prop := k < w.heap.size ∧ k ≠ bN ∧ k ≠ b1 ∧ k ≠ b2 ∧ vn.ownBlock ≠ some k ∧ vs.ownBlock ≠ some k
theorem owns_form {w : World} {base : Nat} {e : TypeId} {size : Nat} {v : Value} {n : Nat} {xs : List Value} (h : w.ownsRow base e size v n xs) : ∃ a c, v = .slice a n c := by
  rcases h.2 with ⟨rfl, rfl⟩ | ⟨g, cap, cur, rfl, _⟩
  · exact ⟨none, 0, rfl⟩
  · exact ⟨_, _, rfl⟩
theorem zi_snoc {α : Type} (l : List α) (x : α) : (l ++ [x]).zipIdx = l.zipIdx ++ [(x, l.length)] := by
  rw [List.zipIdx_append]; simp
theorem List.mem_of_mem_zipIdx' {α : Type} {l : List α} {p : α × Nat} (h : p ∈ l.zipIdx) : p.1 ∈ l := by
  have := List.mem_zipIdx' h
  rw [this.2]; exact List.getElem_mem _
theorem mem_sents {l : List (List UInt8 × Shape)} {x : Value × Value} (h : x ∈ sents l) : ∃ y ∈ l, x.1 = sv y.2 := by
  unfold sents at h
  obtain ⟨p, hp, rfl⟩ := List.mem_map.1 h
  exact ⟨p.1, List.mem_of_mem_zipIdx' hp, rfl⟩
theorem mem_nents {l : List (List UInt8 × Shape)} {x : Value × Value} (h : x ∈ nents l) : ∃ y ∈ l, x.1 = bv y.1 := by
  unfold nents at h
  obtain ⟨p, hp, rfl⟩ := List.mem_map.1 h
  exact ⟨p.1, List.mem_of_mem_zipIdx' hp, rfl⟩
theorem sv_inj {a b : Shape} (h : sv a = sv b) : a = b := by
  obtain ⟨a0, a1, a2, a3⟩ := a
  obtain ⟨b0, b1, b2, b3⟩ := b
  simp only [sv, Value.agg.injEq, Array.mk.injEq, List.cons.injEq, Value.int.injEq, Value.bool.injEq, true_and, and_true] at h
  obtain ⟨rfl, rfl, rfl, rfl⟩ := h
  rfl
theorem bv_inj {a b : List UInt8} (h : bv a = bv b) : a = b := by
  simpa [bv] using h
end As
theorem shape_law : Maps.Keyed Tryd.prog 47 := Maps.Keyed.of_law (deep_law_laid (by kernel_rfl) (m := 100) (by decide) (of_decide_eq_true (by kernel_rfl)) (by kernel_rfl) (by kernel_rfl))
theorem str_law : Maps.Keyed Tryd.prog 9 := Maps.Keyed.of_law (Go.WideMaps.string_law Tryd.underlying9)
theorem sv_key (k : As.Shape) (h1 : (Lit.int .i64 k.1).wf = true) (h2 : (Lit.int .i64 k.2.1).wf = true) : ∃ l, keyOf Tryd.prog 47 (As.sv k) = some l := by
  obtain ⟨n, hn⟩ : ∃ n, Tryd.prog.types.size + 1 = n + 2 := by
    have h : 2 ≤ Tryd.prog.types.size := of_decide_eq_true (by kernel_rfl)
    exact ⟨Tryd.prog.types.size - 1, by omega⟩
  have kt : Tryd.prog.keyType 47 = true := by kernel_rfl
  have kc : Tryd.prog.cellsOf 47 = 4 := by kernel_rfl
  have kc3 : Tryd.prog.cellsOf 3 = 1 := by kernel_rfl
  have kc4 : Tryd.prog.cellsOf 4 = 1 := by kernel_rfl
  unfold keyOf As.sv
  rw [Tryd.underlying47, hn]
  simp only [kt, Value.formed, Tryd.underlying47, kc, Program.keyLits, Value.cells]
  simp [Tryd.underlying3, Tryd.underlying4, kc3, kc4, h1, h2]
theorem bv_key (l : List UInt8) (h : l.length ≤ maxLen) : ∃ k, keyOf Tryd.prog 9 (As.bv l) = some k := by
  have hs : (⟨l.toArray⟩ : ByteArray).size ≤ maxLen := by simpa [ByteArray.size] using h
  unfold keyOf As.bv mapKey
  simp [Tryd.underlying9, hs]
theorem info_str : (Tryd.prog.info? 9).map (fun i => (i.zero, i.size, i.bytes)) = some (some (.string ⟨#[]⟩), 1, 16) := by kernel_rfl
theorem info_shape : (Tryd.prog.info? 47).map (fun i => (i.zero, i.size, i.bytes)) = some (some (.agg #[.int .i64 0, .int .i64 0, .bool false, .bool false]), 4, 24) := by kernel_rfl
namespace As
/-- the state behind the maps' new entries, while the lists grow: names' list v1, shapes' list v2 -/
structure I2 (w X : World) (o1 o2 : Option Nat) (base bc bN b1 b2 bs : Nat) (f0 f1 : Value) (SH : Array Value) (v1 v2 : Value) (n1 n2 : Nat) (x1 x2 : List Value) (m1 m2 : List (Value × Value)) : Prop where
  own1 : X.ownsRow base 9 1 v1 n1 x1
  own2 : X.ownsRow base 47 4 v2 n2 x2
  cN : X.heap[bN]? = some (.cells #[f0, f1, .map (some b1), .map (some b2)] 45 (0, 0))
  cc : X.heap[bc]? = some (.cells #[.pointer (some ⟨bN, 0, none⟩)] 30 (0, 0))
  cs : X.heap[bs]? = some (.cells SH 47 (0, 0))
  mp1 : MapIs X b1 m1
  mp2 : MapIs X b2 m2
  bel : Below base w X
  hs : base ≤ X.heap.size
  ne2 : v2.ownBlock ≠ some bs
  ob1 : v1.ownBlock = o1 ∨ ∃ g, v1.ownBlock = some g ∧ w.heap.size ≤ g
  ob2 : v2.ownBlock = o2 ∨ ∃ g, v2.ownBlock = some g ∧ w.heap.size ≤ g
  fr : ∀ k, k < w.heap.size → k ≠ bN → k ≠ b1 → k ≠ b2 → o1 ≠ some k → o2 ≠ some k → X.heap[k]? = w.heap[k]?
  ws : w.heap.size ≤ X.heap.size
section
variable {vn0 vs0 : Value} {w X X' : World} {o1 o2 : Option Nat} {base bc bN b1 b2 bs : Nat} {f0 f1 : Value} {SH : Array Value} {v1 v2 : Value} {n1 n2 : Nat} {x1 x2 : List Value} {m1 m2 : List (Value × Value)}
theorem lt_of {X : World} {b : Nat} {o : Obj} (h : X.heap[b]? = some o) : b < X.heap.size := (Array.getElem?_eq_some_iff.1 h).1
theorem own_obj {X : World} {base : Nat} {e : TypeId} {size : Nat} {v : Value} {n : Nat} {xs : List Value} (h : X.ownsRow base e size v n xs) {g : Nat} (hg : v.ownBlock = some g) : ∃ cur, X.heap[g]? = some (.cells cur e (0, 0)) := by
  rcases h.2 with ⟨rfl, _⟩ | ⟨g', cap, cur, rfl, _, h2, _⟩
  · cases hg
  · simp only [Value.ownBlock, Option.some.injEq] at hg
    subst hg
    exact ⟨cur, h2⟩
theorem I2.below (h : I2 w X o1 o2 base bc bN b1 b2 bs f0 f1 SH v1 v2 n1 n2 x1 x2 m1 m2) (hb : Below X.heap.size X X') : I2 w X' o1 o2 base bc bN b1 b2 bs f0 f1 SH v1 v2 n1 n2 x1 x2 m1 m2 where
  own1 := h.own1.kept (row := none) ⟨hb.os, hb.tape, hb.output, hb.size, fun k hk _ => hb.block k hk⟩ (by cases hv : v1.ownBlock <;> simp)
  own2 := h.own2.kept (row := none) ⟨hb.os, hb.tape, hb.output, hb.size, fun k hk _ => hb.block k hk⟩ (by cases hv : v2.ownBlock <;> simp)
  cN := (hb.block _ (lt_of h.cN)).trans h.cN
  cc := (hb.block _ (lt_of h.cc)).trans h.cc
  cs := (hb.block _ (lt_of h.cs)).trans h.cs
  mp1 := h.mp1.below hb h.mp1.lt
  mp2 := h.mp2.below hb h.mp2.lt
  bel := h.bel.trans (hb.mono h.hs)
  hs := Nat.le_trans h.hs hb.size
  ne2 := h.ne2
  ob1 := h.ob1
  ob2 := h.ob2
  fr := fun k hk q1 q2 q3 q4 q5 => (hb.block k (Nat.lt_of_lt_of_le hk h.ws)).trans (h.fr k hk q1 q2 q3 q4 q5)
  ws := Nat.le_trans h.ws hb.size
theorem I2.alloc (h : I2 w X o1 o2 base bc bN b1 b2 bs f0 f1 SH v1 v2 n1 n2 x1 x2 m1 m2) (o : Obj) : I2 w (X.alloc o) o1 o2 base bc bN b1 b2 bs f0 f1 SH v1 v2 n1 n2 x1 x2 m1 m2 := h.below ((Below.refl _ _).alloc (Nat.le_refl _) _)
theorem I2.grow1 (h : I2 w X o1 o2 base bc bN b1 b2 bs f0 f1 SH v1 v2 n1 n2 x1 x2 m1 m2) {g n1' cap : Nat} {x1' : List Value} (ho : X'.ownsRow base 9 1 (.slice (some ⟨g, 0, none⟩) n1' cap) n1' x1') (hg : X.grownBy X' v1.ownBlock) (hg' : v1.ownBlock = some g ∨ g = X.heap.size) : I2 w X' o1 o2 base bc bN b1 b2 bs f0 f1 SH (.slice (some ⟨g, 0, none⟩) n1' cap) v2 n1' n2 x1' x2 m1 m2 where
  own1 := ho
  own2 := h.own2.kept hg (by
    cases hv : v2.ownBlock with
    | none => exact .inl rfl
    | some g =>
      refine .inr ?_
      rintro he
      obtain ⟨c1, e1⟩ := own_obj h.own2 hv
      obtain ⟨c2, e2⟩ := own_obj h.own1 he.symm
      rw [e1] at e2; simp at e2)
  cN := (hg.block _ (lt_of h.cN) (fun he => by obtain ⟨c2, e2⟩ := own_obj h.own1 he.symm; rw [h.cN] at e2; simp at e2)).trans h.cN
  cc := (hg.block _ (lt_of h.cc) (fun he => by obtain ⟨c2, e2⟩ := own_obj h.own1 he.symm; rw [h.cc] at e2; simp at e2)).trans h.cc
  cs := (hg.block _ (lt_of h.cs) (fun he => by obtain ⟨c2, e2⟩ := own_obj h.own1 he.symm; rw [h.cs] at e2; simp at e2)).trans h.cs
  mp1 := h.mp1.keep (hg.block _ h.mp1.lt (fun he => by obtain ⟨c2, e2⟩ := own_obj h.own1 he.symm; obtain ⟨es, c, e3, _⟩ := h.mp1; rw [e3] at e2; cases e2))
  mp2 := h.mp2.keep (hg.block _ h.mp2.lt (fun he => by obtain ⟨c2, e2⟩ := own_obj h.own1 he.symm; obtain ⟨es, c, e3, _⟩ := h.mp2; rw [e3] at e2; cases e2))
  bel := below_grown h.bel h.hs hg (owns_rows h.own1)
  hs := Nat.le_trans h.hs hg.size
  ne2 := h.ne2
  ob1 := by
    simp only [Value.ownBlock]
    have hws := h.ws
    rcases hg' with hg' | hg'
    · rcases h.ob1 with e | ⟨g2, e, hl⟩
      · exact .inl (hg'.symm.trans e)
      · rw [hg'] at e; simp only [Option.some.injEq] at e; exact .inr ⟨g, rfl, by omega⟩
    · exact .inr ⟨g, rfl, by omega⟩
  ob2 := h.ob2
  fr := fun k hk q1 q2 q3 q4 q5 => (hg.block k (Nat.lt_of_lt_of_le hk h.ws) (fun he => by
    rcases h.ob1 with e | ⟨g2, e, hl⟩
    · exact q4 (e.symm.trans he.symm)
    · rw [e] at he; simp only [Option.some.injEq] at he; omega)).trans (h.fr k hk q1 q2 q3 q4 q5)
  ws := Nat.le_trans h.ws hg.size
theorem I2.grow2 (h : I2 w X o1 o2 base bc bN b1 b2 bs f0 f1 SH v1 v2 n1 n2 x1 x2 m1 m2) {g : Nat} {n2' cap : Nat} {x2' : List Value} (ho : X'.ownsRow base 47 4 (.slice (some ⟨g, 0, none⟩) n2' cap) n2' x2') (hg : X.grownBy X' v2.ownBlock) (hg' : v2.ownBlock = some g ∨ g = X.heap.size) : I2 w X' o1 o2 base bc bN b1 b2 bs f0 f1 SH v1 (.slice (some ⟨g, 0, none⟩) n2' cap) n1 n2' x1 x2' m1 m2 where
  own1 := h.own1.kept hg (by
    cases hv : v1.ownBlock with
    | none => exact .inl rfl
    | some g =>
      refine .inr ?_
      rintro he
      obtain ⟨c1, e1⟩ := own_obj h.own1 hv
      obtain ⟨c2, e2⟩ := own_obj h.own2 he.symm
      rw [e1] at e2; simp at e2)
  own2 := ho
  cN := (hg.block _ (lt_of h.cN) (fun he => by obtain ⟨c2, e2⟩ := own_obj h.own2 he.symm; rw [h.cN] at e2; simp at e2)).trans h.cN
  cc := (hg.block _ (lt_of h.cc) (fun he => by obtain ⟨c2, e2⟩ := own_obj h.own2 he.symm; rw [h.cc] at e2; simp at e2)).trans h.cc
  cs := (hg.block _ (lt_of h.cs) (fun he => h.ne2 he.symm)).trans h.cs
  mp1 := h.mp1.keep (hg.block _ h.mp1.lt (fun he => by obtain ⟨c2, e2⟩ := own_obj h.own2 he.symm; obtain ⟨es, c, e3, _⟩ := h.mp1; rw [e3] at e2; cases e2))
  mp2 := h.mp2.keep (hg.block _ h.mp2.lt (fun he => by obtain ⟨c2, e2⟩ := own_obj h.own2 he.symm; obtain ⟨es, c, e3, _⟩ := h.mp2; rw [e3] at e2; cases e2))
  bel := below_grown h.bel h.hs hg (owns_rows h.own2)
  hs := Nat.le_trans h.hs hg.size
  ne2 := by
    simp only [Value.ownBlock, ne_eq, Option.some.injEq]
    rintro rfl
    rcases hg' with hg' | hg'
    · exact h.ne2 hg'
    · have := lt_of h.cs; omega
  ob1 := h.ob1
  ob2 := by
    simp only [Value.ownBlock]
    have hws := h.ws
    rcases hg' with hg' | hg'
    · rcases h.ob2 with e | ⟨g2, e, hl⟩
      · exact .inl (hg'.symm.trans e)
      · rw [hg'] at e; simp only [Option.some.injEq] at e; exact .inr ⟨g, rfl, by omega⟩
    · exact .inr ⟨g, rfl, by omega⟩
  fr := fun k hk q1 q2 q3 q4 q5 => (hg.block k (Nat.lt_of_lt_of_le hk h.ws) (fun he => by
    rcases h.ob2 with e | ⟨g2, e, hl⟩
    · exact q5 (e.symm.trans he.symm)
    · rw [e] at he; simp only [Option.some.injEq] at he; omega)).trans (h.fr k hk q1 q2 q3 q4 q5)
  ws := Nat.le_trans h.ws hg.size
/-- the two stores -/
theorem I2.done (h : I2 w X o1 o2 base bc bN b1 b2 bs f0 f1 SH v1 v2 n1 n2 x1 x2 m1 m2) (hbN : base ≤ bN) (hcN : bc ≠ bN) (hsN : bs ≠ bN) (h1N : b1 ≠ bN) (h2N : b2 ≠ bN) :
    I2 w ((X.setCell ⟨bN, 0, none⟩ v1).setCell ⟨bN, 1, none⟩ v2) o1 o2 base bc bN b1 b2 bs v1 v2 SH v1 v2 n1 n2 x1 x2 m1 m2 where
  own1 := ownsRow_setCell_other (ownsRow_setCell_other h.own1 (fun he => by obtain ⟨c2, e2⟩ := own_obj h.own1 he; rw [h.cN] at e2; simp at e2) _) (fun he => by obtain ⟨c2, e2⟩ := own_obj h.own1 he; rw [h.cN] at e2; simp at e2) _
  own2 := ownsRow_setCell_other (ownsRow_setCell_other h.own2 (fun he => by obtain ⟨c2, e2⟩ := own_obj h.own2 he; rw [h.cN] at e2; simp at e2) _) (fun he => by obtain ⟨c2, e2⟩ := own_obj h.own2 he; rw [h.cN] at e2; simp at e2) _
  cN := by simp [World.setCell, Array.getElem?_modify, h.cN]
  cc := by simp [World.setCell, Array.getElem?_modify, h.cc, Ne.symm hcN]
  cs := by simp [World.setCell, Array.getElem?_modify, h.cs, Ne.symm hsN]
  mp1 := h.mp1.keep (by simp [World.setCell, Array.getElem?_modify, Ne.symm h1N])
  mp2 := h.mp2.keep (by simp [World.setCell, Array.getElem?_modify, Ne.symm h2N])
  bel := (h.bel.setCell (p := ⟨bN, 0, none⟩) hbN _).setCell (p := ⟨bN, 1, none⟩) hbN _
  hs := by simpa [World.setCell] using h.hs
  ne2 := h.ne2
  ob1 := h.ob1
  ob2 := h.ob2
  fr := fun k hk q1 q2 q3 q4 q5 => by
    rw [← h.fr k hk q1 q2 q3 q4 q5]
    simp [World.setCell, Array.getElem?_modify, Ne.symm q1]
  ws := by simpa [World.setCell] using h.ws
/-- what the region's loads read: the lists' old values till they are stored -/
def S2 (bc bN bs : Nat) (f0 f1 s0 s1 s2 s3 : Value) (L : Array Bool) (X : World) : Prop :=
  (X.cell? ⟨bc, 0, none⟩ = some (.pointer (some ⟨bN, 0, none⟩)) ∧ X.cell? ⟨bs, 0, none⟩ = some s0 ∧ X.cell? ⟨bs, 1, none⟩ = some s1 ∧ X.cell? ⟨bs, 2, none⟩ = some s2 ∧ X.cell? ⟨bs, 3, none⟩ = some s3) ∧
  (L.getD 18 true = false → X.cell? ⟨bN, 0, none⟩ = some f0) ∧ (L.getD 21 true = false → X.cell? ⟨bN, 1, none⟩ = some f1)
theorem I2.S2 {s0 s1 s2 s3 : Value} (h : I2 w X o1 o2 base bc bN b1 b2 bs f0 f1 #[s0, s1, s2, s3] v1 v2 n1 n2 x1 x2 m1 m2) (L : Array Bool) : S2 bc bN bs f0 f1 s0 s1 s2 s3 L X := by
  have ce : ∀ {b : Nat} {cs : Array Value} {t : TypeId} {f : Nat × Nat}, X.heap[b]? = some (.cells cs t f) → ∀ j v, cs[j]? = some v → X.cell? ⟨b, j, none⟩ = some v := by
    intro b cs t f hX j v hj
    rw [cell_of_row X b j cs t f hX]; exact hj
  exact ⟨⟨ce h.cc 0 _ rfl, ce h.cs 0 _ rfl, ce h.cs 1 _ rfl, ce h.cs 2 _ rfl, ce h.cs 3 _ rfl⟩, fun _ => ce h.cN 0 _ rfl, fun _ => ce h.cN 1 _ rfl⟩
theorem S2_put {s0 s1 s2 s3 : Value} {n i : Nat} (h1 : i ≠ 18) (h2 : i ≠ 21) : ∀ (L : Array Bool) (X : World), L.size = n → (S2 bc bN bs f0 f1 s0 s1 s2 s3 (L.setIfInBounds i true) X ↔ S2 bc bN bs f0 f1 s0 s1 s2 s3 L X) := by
  intro L X _
  unfold S2
  rw [getD_set_ne true h1, getD_set_ne true h2]
/-- does k wait for i? -/
def waits (md : Region.Mode) (ops : Array Oper) (k i : Nat) : Bool := ((ops[k]?).map fun o => o.after.any fun e => Region.binds md e && e.on == i).getD false
theorem closed_waits {md : Region.Mode} {ops : Array Oper} {L : Array Bool} {k i : Nat} (hw : waits md ops k i = true) (hc : Closed md ops L) (hk : L.getD k false = true) : L.getD i false = true := by
  unfold waits at hw
  cases ho : ops[k]? with
  | none => rw [ho] at hw; cases hw
  | some o =>
    rw [ho] at hw
    simp only [Option.map_some, Option.getD_some, Array.any_eq_true'] at hw
    obtain ⟨e, he, hb⟩ := hw
    simp only [Bool.and_eq_true, beq_iff_eq] at hb
    have := hc k o ho hk e he hb.1
    rw [hb.2] at this
    exact this
theorem getD_no {L : Array Bool} {n i : Nat} (hn : L.size = n) (hi : i < n) : L.getD i true = L.getD i false := by
  simp [Array.getD, hn, hi]
theorem star_bc {md : Region.Mode} {ops : Array Oper} {s0 s1 s2 s3 : Value} {n i : Nat} {X : World} (h : Star md ops (S2 bc bN bs f0 f1 s0 s1 s2 s3) n i X) : X.cell? ⟨bc, 0, none⟩ = some (.pointer (some ⟨bN, 0, none⟩)) ∧ X.cell? ⟨bs, 0, none⟩ = some s0 ∧ X.cell? ⟨bs, 1, none⟩ = some s1 ∧ X.cell? ⟨bs, 2, none⟩ = some s2 ∧ X.cell? ⟨bs, 3, none⟩ = some s3 := by
  obtain ⟨L, _, _, _, h⟩ := h
  exact h.1
theorem star_f {md : Region.Mode} {ops : Array Oper} {s0 s1 s2 s3 : Value} {k i m : Nat} {X : World} (h : Star md ops (S2 bc bN bs f0 f1 s0 s1 s2 s3) 22 i X) (hi : i < 22) (h1 : waits md ops 18 15 = true) (h2 : waits md ops 15 m = true) (h3 : waits md ops m i = true) : X.cell? ⟨bN, 0, none⟩ = some f0 := by
  obtain ⟨L, hn, hc, h0, h⟩ := h
  refine h.2.1 ?_
  rw [getD_no hn (by decide)]
  cases h18 : L.getD 18 false
  · rfl
  · have := closed_waits h3 hc (closed_waits h2 hc (closed_waits h1 hc h18))
    rw [← getD_no hn hi, h0] at this
    cases this
theorem star_g {md : Region.Mode} {ops : Array Oper} {s0 s1 s2 s3 : Value} {i : Nat} {X : World} (h : Star md ops (S2 bc bN bs f0 f1 s0 s1 s2 s3) 22 i X) (hi : i < 22) (h1 : waits md ops 21 15 = true) (h2 : waits md ops 15 i = true) : X.cell? ⟨bN, 1, none⟩ = some f1 := by
  obtain ⟨L, hn, hc, h0, h⟩ := h
  refine h.2.2 ?_
  rw [getD_no hn (by decide)]
  cases h18 : L.getD 21 false
  · rfl
  · have := closed_waits h2 hc (closed_waits h1 hc h18)
    rw [← getD_no hn hi, h0] at this
    cases this
/-- while the first list is stored, and while the second is -/
theorem I2.S2a {s0 s1 s2 s3 : Value} (h : I2 w X o1 o2 base bc bN b1 b2 bs f0 f1 #[s0, s1, s2, s3] v1 v2 n1 n2 x1 x2 m1 m2) (hc : bc ≠ bN) (hs : bs ≠ bN) (L : Array Bool) (hL : L.getD 18 true = true) (u : Value) : As.S2 bc bN bs f0 f1 s0 s1 s2 s3 L (X.setCell ⟨bN, 0, none⟩ u) := by
  obtain ⟨⟨h1, h2, h3, h4, h5⟩, _, h7⟩ := h.S2 (Array.replicate 22 false)
  refine ⟨⟨?_, ?_, ?_, ?_, ?_⟩, (fun h => by rw [hL] at h; cases h), fun _ => ?_⟩
  · rw [World.cell?_setCell_far _ _ _ _ (Ne.symm hc)]; exact h1
  · rw [World.cell?_setCell_far _ _ _ _ (Ne.symm hs)]; exact h2
  · rw [World.cell?_setCell_far _ _ _ _ (Ne.symm hs)]; exact h3
  · rw [World.cell?_setCell_far _ _ _ _ (Ne.symm hs)]; exact h4
  · rw [World.cell?_setCell_far _ _ _ _ (Ne.symm hs)]; exact h5
  · rw [World.cell?_setCell_other _ _ _ _ (by simp)]; exact h7 (by simp)
theorem I2.S2b {s0 s1 s2 s3 : Value} (h : I2 w X o1 o2 base bc bN b1 b2 bs f0 f1 #[s0, s1, s2, s3] v1 v2 n1 n2 x1 x2 m1 m2) (hc : bc ≠ bN) (hs : bs ≠ bN) (L : Array Bool) (hL : L.getD 18 true = true) (hL' : L.getD 21 true = true) (u u' : Value) : As.S2 bc bN bs f0 f1 s0 s1 s2 s3 L ((X.setCell ⟨bN, 0, none⟩ u).setCell ⟨bN, 1, none⟩ u') := by
  obtain ⟨⟨h1, h2, h3, h4, h5⟩, _, _⟩ := h.S2a hc hs L hL u
  refine ⟨⟨?_, ?_, ?_, ?_, ?_⟩, (fun h => by rw [hL] at h; cases h), (fun h => by rw [hL'] at h; cases h)⟩
  · rw [World.cell?_setCell_far _ _ _ _ (Ne.symm hc)]; exact h1
  · rw [World.cell?_setCell_far _ _ _ _ (Ne.symm hs)]; exact h2
  · rw [World.cell?_setCell_far _ _ _ _ (Ne.symm hs)]; exact h3
  · rw [World.cell?_setCell_far _ _ _ _ (Ne.symm hs)]; exact h4
  · rw [World.cell?_setCell_far _ _ _ _ (Ne.symm hs)]; exact h5
theorem I2.froz (h : I2 w X o1 o2 base bc bN b1 b2 bs f0 f1 SH v1 v2 n1 n2 x1 x2 m1 m2) : (X.cell? ⟨bN, 0, none⟩ = some f0 ∧ X.cell? ⟨bN, 1, none⟩ = some f1) ∧ X.frozen? ⟨bN, 0, none⟩ = false ∧ X.frozen? ⟨bN, 1, none⟩ = false := by
  have ce : ∀ j v, (#[f0, f1, .map (some b1), .map (some b2)] : Array Value)[j]? = some v → X.cell? ⟨bN, j, none⟩ = some v := by
    intro j v hj
    rw [cell_of_row X bN j _ _ _ h.cN]; exact hj
  exact ⟨⟨ce 0 _ rfl, ce 1 _ rfl⟩, by simp [World.frozen?, h.cN], by simp [World.frozen?, h.cN]⟩
theorem at_alloc (W : World) (o : Obj) (p : Nat) (hp : W.heap.size = p) : (W.alloc o).heap[p]? = some o := by subst hp; exact (MapKept.heap_alloc W o).1
/-- the block of an append's new element, for a list of strings, and for one of shapes -/
theorem news_blk {X : World} {p : Nat} {cs : Array Value} {t : TypeId} {f : Nat × Nat} (h : X.heap[p]? = some (.cells cs t f)) : ∀ j u, cs.toList[j]? = some u → X.cell? ((⟨p, 0, none⟩ : Addr).add j) = some u := World.news_of_block h
theorem I2.box (h : I2 w X o1 o2 base bc bN b1 b2 bs f0 f1 SH v1 v2 n1 n2 x1 x2 m1 m2) {p : Nat} {cs : Array Value} {t : TypeId} (hp : X.heap[p]? = some (.cells cs t (0, 0))) (ht : t ≠ 9) (hg : X.grownBy X' v1.ownBlock) : X'.heap[p]? = some (.cells cs t (0, 0)) :=
  (hg.block _ (lt_of hp) (fun he => by obtain ⟨c2, e2⟩ := own_obj h.own1 he.symm; rw [hp] at e2; simp at e2; exact ht e2.2)).trans hp
theorem I2.nm {l : List (List UInt8 × Shape)} {e : List UInt8 × Shape} (h : I2 w X o1 o2 base bc bN b1 b2 bs v1 v2 SH v1 v2 (l.length + 1) (l.length + 1) (scells l ++ [bv e.1]) (kcells l ++ kcell e.2) (sents l ++ [(sv e.2, .int .i64 (l.length : Int))]) (nents l ++ [(bv e.1, .int .i64 (l.length : Int))]))
    {vn vs : Value} (h0 : Nm w base bN b1 b2 vn vs l) : Nm X base bN b1 b2 v1 v2 (l ++ [e]) where
  bN0 := h0.bN0
  b10 := h0.b10
  b20 := h0.b20
  ne := h0.ne
  cells := h.cN
  own1 := by have := h.own1; simpa [scells, List.map_append] using this
  own2 := by have := h.own2; simpa [kcells, List.flatMap_append] using this
  map1 := by have := h.mp1; simpa [sents, zi_snoc] using this
  map2 := by have := h.mp2; simpa [nents, zi_snoc] using this
theorem I2.apart (h : I2 w X vn0.ownBlock vs0.ownBlock base bc bN b1 b2 bs f0 f1 SH v1 v2 n1 n2 x1 x2 m1 m2) {k : Nat} (hk : Apart w bN b1 b2 vn0 vs0 k) : Apart X bN b1 b2 v1 v2 k ∧ X.heap[k]? = w.heap[k]? := by
  obtain ⟨h0, h1, h2, h3, h4, h5⟩ := hk
  refine ⟨⟨Nat.lt_of_lt_of_le h0 h.ws, h1, h2, h3, ?_, ?_⟩, h.fr k h0 h1 h2 h3 h4 h5⟩
  · rcases h.ob1 with e | ⟨g, e, hl⟩
    · rw [e]; exact h4
    · rw [e]; simp; omega
  · rcases h.ob2 with e | ⟨g, e, hl⟩
    · rw [e]; exact h5
    · rw [e]; simp; omega
end
end As
end Go.Proofs.YtcckbmmjklahfaaDoor
