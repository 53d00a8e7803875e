/- The table that consts.Two lays: what lies under each key, and the walks that lay it. Conditions: the map lies in a block of its own. -/
import Derived.Test.YthcpedonpiihnaaConY
import Derived.Maps.AppendAt
namespace Go.Proofs.Ythcpedonpiihnaa
set_option linter.unusedSimpArgs false
set_option linter.unusedVariables false
open Go.RowKit
/-- which closure lies under which word -/
def intsAt : List (ByteArray × Nat) := [(⟨#[43]⟩, 97), (⟨#[45]⟩, 98), (⟨#[42]⟩, 99), (⟨#[68, 73, 86]⟩, 100), (⟨#[77, 79, 68]⟩, 102)]
def setsAt : List (ByteArray × Nat) := [(⟨#[43]⟩, 105), (⟨#[45]⟩, 106), (⟨#[42]⟩, 107), (⟨#[47]⟩, 108)]
def relsAt : List (ByteArray × Nat) := [(⟨#[61]⟩, 110), (⟨#[35]⟩, 111), (⟨#[60]⟩, 112), (⟨#[60, 61]⟩, 113), (⟨#[62]⟩, 114), (⟨#[62, 61]⟩, 115)]
def boolsAt : List (ByteArray × Nat) := [(⟨#[38]⟩, 50), (⟨#[79, 82]⟩, 51)]
/-- a closure over one cell that holds a function -/
def Over (W : World) (f g : Nat) (v : Value) : Prop := ∃ p, p < W.heap.size ∧ v = .func (.func f) #[] #[.pointer (some ⟨p, 0, none⟩)] ∧ W.cell? ⟨p, 0, none⟩ = some (.func (.func g) #[] #[])
/-- what may lie under a key -/
def IsFn (W : World) (key v : Value) : Prop :=
  (∃ s g, (s, g) ∈ intsAt ∧ key = ky 1 1 s ∧ Over W 96 g v) ∨
  (∃ s g, (s, g) ∈ setsAt ∧ key = ky 4 4 s ∧ Over W 104 g v) ∨
  (key = ky 1 4 ⟨#[73, 78]⟩ ∧ v = .func (.func 109) #[] #[]) ∨
  (∃ f s g, (s, g) ∈ relsAt ∧ key = ky f f s ∧ 1 ≤ f ∧ f ≤ 6 ∧ Over W 116 g v) ∨
  (∃ s g, (s, g) ∈ boolsAt ∧ key = ky 2 2 s ∧ Over W 52 g v)
/-- the cells that hold something hold it still -/
def Still (W W' : World) : Prop := W.heap.size ≤ W'.heap.size ∧ ∀ b v, W.cell? ⟨b, 0, none⟩ = some v → W'.cell? ⟨b, 0, none⟩ = some v
theorem Still.refl (W : World) : Still W W := ⟨Nat.le_refl _, fun _ _ h => h⟩
theorem Still.trans {a b c : World} (h : Still a b) (k : Still b c) : Still a c := ⟨Nat.le_trans h.1 k.1, fun x v hx => k.2 x v (h.2 x v hx)⟩
theorem cell_in {W : World} {b i : Nat} {v : Value} (h : W.cell? ⟨b, i, none⟩ = some v) : b < W.heap.size := by
  unfold World.cell? at h
  cases hb : W.heap[b]? with
  | none => simp [hb] at h
  | some o => exact (Array.getElem?_eq_some_iff.1 hb).1
theorem Still.of_below {W W' : World} (h : Below W.heap.size W W') : Still W W' :=
  ⟨h.size, fun b v hv => by rw [h.cell (p := ⟨b, 0, none⟩) (cell_in hv)]; exact hv⟩
theorem Still.setMap {W : World} {b : Nat} {es : Array MapEntry} {c : Nat} (hb : W.heap[b]? = some (.map es c)) (es' : Array MapEntry) (c' : Nat) : Still W (setMap W b es' c') := by
  refine ⟨by simp [Ythcpedonpiihnaa.setMap], fun k v hv => ?_⟩
  by_cases hk : k = b
  · subst hk
    unfold World.cell? at hv
    rw [hb] at hv
    cases hv
  · rw [setMap_cell W b es' c' k 0 hk]; exact hv
theorem Over.still {W W' : World} {f g : Nat} {v : Value} (h : Over W f g v) (hs : Still W W') : Over W' f g v :=
  let ⟨p, h1, h2, h3⟩ := h
  ⟨p, Nat.lt_of_lt_of_le h1 hs.1, h2, hs.2 _ _ h3⟩
theorem IsFn.still {W W' : World} {key v : Value} (h : IsFn W key v) (hs : Still W W') : IsFn W' key v := by
  rcases h with ⟨s, g, h1, h2, h3⟩ | ⟨s, g, h1, h2, h3⟩ | h | ⟨f, s, g, h1, h2, h3, h4, h5⟩ | ⟨s, g, h1, h2, h3⟩
  · exact .inl ⟨s, g, h1, h2, h3.still hs⟩
  · exact .inr (.inl ⟨s, g, h1, h2, h3.still hs⟩)
  · exact .inr (.inr (.inl h))
  · exact .inr (.inr (.inr (.inl ⟨f, s, g, h1, h2, h3, h4, h5.still hs⟩)))
  · exact .inr (.inr (.inr (.inr ⟨s, g, h1, h2, h3.still hs⟩)))
/-- the map in block b: under each of the keys S what belongs there -/
def Tab (W : World) (b : Nat) (S : Value → Prop) : Prop :=
  ∃ es c, W.heap[b]? = some (.map es c) ∧ (∀ e ∈ es.toList, IsFn W e.key e.val) ∧ ∀ k, S k ↔ ∃ e ∈ es.toList, e.key = k
theorem words_short (s : ByteArray) (g : Nat) (h : (s, g) ∈ intsAt ++ setsAt ++ relsAt ++ boolsAt) : s.size ≤ maxLen := by
  have h1 : ∀ x ∈ intsAt ++ setsAt ++ relsAt ++ boolsAt, x.1.size ≤ 3 := by decide
  have hm : (3:Nat) ≤ maxLen := by unfold maxLen; omega
  exact Nat.le_trans (h1 _ h) hm
theorem IsFn.keyed {W : World} {key v : Value} (h : IsFn W key v) : ∃ l, keyOf Try.prog 79 key = some l := by
  rcases h with ⟨s, g, h1, rfl, _⟩ | ⟨s, g, h1, rfl, _⟩ | ⟨rfl, _⟩ | ⟨f, s, g, h1, rfl, h3, h4, _⟩ | ⟨s, g, h1, rfl, _⟩
  · exact ky_key 1 1 s (by decide) (by decide) (words_short s g (by simp [h1]))
  · exact ky_key 4 4 s (by decide) (by decide) (words_short s g (by simp [h1]))
  · exact ky_key 1 4 _ (by decide) (by decide) (by unfold maxLen; decide)
  · have hf : (Lit.int .i64 f).wf = true := by simp [Lit.wf, IntKind.min, IntKind.max, IntKind.signed, IntKind.bits]; omega
    exact ky_key f f s hf hf (words_short s g (by simp [h1]))
  · exact ky_key 2 2 s (by decide) (by decide) (words_short s g (by simp [h1]))
theorem Tab.still {W W' : World} {b : Nat} {S : Value → Prop} (h : Tab W b S) (hs : Still W W') (hb : W'.heap[b]? = W.heap[b]?) : Tab W' b S := by
  obtain ⟨es, c, h1, h2, h3⟩ := h
  exact ⟨es, c, hb.trans h1, fun e he => (h2 e he).still hs, h3⟩
theorem Tab.lt {W : World} {b : Nat} {S : Value → Prop} (h : Tab W b S) : b < W.heap.size := by
  obtain ⟨es, c, h1, _⟩ := h
  exact (Array.getElem?_eq_some_iff.1 h1).1
theorem Tab.stays {W W' : World} {b : Nat} {S : Value → Prop} (h : Tab W b S) (hg : W.grownBy W' (some b)) : Still W W' := by
  obtain ⟨es, c, h1, _⟩ := h
  refine ⟨hg.size, fun k v hv => ?_⟩
  by_cases hk : k = b
  · subst hk
    unfold World.cell? at hv
    rw [h1] at hv
    cases hv
  · exact hg.cell hv (by simp [hk])
/-- laying one more -/
theorem Tab.put {W : World} {b : Nat} {S : Value → Prop} (h : Tab W b S) {key v : Value} (hn : ¬ S key) (hf : IsFn W key v) :
    ∃ W', (Instr.mapUpdate 71 (.map (some b)) key v).run Try.prog W = .ok () W' ∧ W.grownBy W' (some b) ∧ Tab W' b (fun k => S k ∨ k = key) := by
  obtain ⟨es, c, h1, h2, h3⟩ := h
  have hlt := (Array.getElem?_eq_some_iff.1 h1).1
  have hst := Still.setMap h1 (es.push { key, val := v, born := c }) (c + 1)
  refine ⟨_, run_put W b es c key v h1 hf.keyed (fun e he => (h2 e he).keyed) (fun e he hk => hn ((h3 key).2 ⟨e, he, hk⟩)), ⟨rfl, rfl, rfl, hst.1, fun k _ hk => setMap_block _ _ _ _ k (by simpa using hk)⟩, ?_⟩
  refine ⟨_, _, setMap_at _ _ _ _ hlt, fun e he => ?_, fun k => ?_⟩
  · rw [Array.toList_push, List.mem_append] at he
    rcases he with he | he
    · exact (h2 e he).still hst
    · simp at he
      subst he
      exact hf.still hst
  · show (S k ∨ k = key) ↔ _
    rw [Array.toList_push, h3 k]
    constructor
    · rintro (⟨e, he, hk⟩ | rfl)
      · exact ⟨e, List.mem_append_left _ he, hk⟩
      · exact ⟨_, List.mem_append_right _ (List.mem_singleton_self _), rfl⟩
    · rintro ⟨e, he, hk⟩
      rcases List.mem_append.1 he with he | he
      · exact .inl ⟨e, he, hk⟩
      · simp at he; subst he; exact .inr hk.symm
/-- what a laying function leaves -/
def Lays (b : Nat) (S : Value → Prop) (W : World) (e : Ending) (W' : World) : Prop := e = .returned (.tuple #[]) ∧ W.grownBy W' (some b) ∧ Tab W' b S
/-- the keys S and those of a list -/
def And' (S : Value → Prop) (l : List Value) (k : Value) : Prop := S k ∨ k ∈ l
theorem And'.step {S : Value → Prop} {l : List Value} {x : Value} (k : Value) : (And' S l k ∨ k = x) ↔ And' S (x :: l) k := by
  unfold And'
  rw [List.mem_cons]
  constructor
  · rintro ((h | h) | h)
    · exact .inl h
    · exact .inr (.inr h)
    · exact .inr (.inl h)
  · rintro (h | h | h)
    · exact .inl (.inl h)
    · exact .inr h
    · exact .inl (.inr h)
theorem Tab.congr {W : World} {b : Nat} {S S' : Value → Prop} (h : Tab W b S) (he : ∀ k, S k ↔ S' k) : Tab W b S' := by
  obtain ⟨es, c, h1, h2, h3⟩ := h
  exact ⟨es, c, h1, h2, fun k => (he k).symm.trans (h3 k)⟩
theorem not_and {S : Value → Prop} {l : List Value} {x : Value} (h1 : ¬ S x) (h2 : x ∉ l) : ¬ And' S l x := fun h => h.elim h1 h2
theorem put_ints (s : ByteArray) (g pa b : Nat) (S : Value → Prop) (l : List Value) (W : World) (hg : (s, g) ∈ intsAt) (hT : Tab W b (And' S l)) (hn : ¬ S (ky 1 1 s)) (hl : ky 1 1 s ∉ l) (hp : W.cell? ⟨pa, 0, none⟩ = some (.map (some b))) (hpl : pa < W.heap.size) :
    Calls Try.prog 95 #[.string s, .func (.func g) #[] #[], .pointer (some ⟨pa, 0, none⟩)] W (Lays b (And' S (ky 1 1 s :: l)) W) := by
  have hlt := hT.lt
  have hst := Still.of_below (Below.alloc (Below.refl W.heap.size W) (Nat.le_refl _) (.cells #[.func (.func g) #[] #[]] 107))
  have hT1 := hT.still hst (Below.heap_alloc W _ b hlt)
  obtain ⟨W', hr, hg', hT'⟩ := hT1.put (v := .func (.func 96) #[] #[.pointer (some ⟨W.heap.size, 0, none⟩)]) (not_and hn hl) (.inl ⟨s, g, hg, rfl, W.heap.size, by simp, rfl, by simp [go_sem]⟩)
  have HF : Lays b (And' S (ky 1 1 s :: l)) W (.returned (.tuple #[])) W' := ⟨rfl, (World.grownBy_alloc W _ _).trans hg', hT'.congr fun k => And'.step k⟩
  clear hT hT1 hT' hg' hst hn hg hl
  unfold ky at hr
  go_enter Try.func95, Try.ntmps95
  go_wp2
  go_end0
  exact HF
theorem put_sets (s : ByteArray) (g pa b : Nat) (S : Value → Prop) (l : List Value) (W : World) (hg : (s, g) ∈ setsAt) (hT : Tab W b (And' S l)) (hn : ¬ S (ky 4 4 s)) (hl : ky 4 4 s ∉ l) (hp : W.cell? ⟨pa, 0, none⟩ = some (.map (some b))) (hpl : pa < W.heap.size) :
    Calls Try.prog 103 #[.string s, .func (.func g) #[] #[], .pointer (some ⟨pa, 0, none⟩)] W (Lays b (And' S (ky 4 4 s :: l)) W) := by
  have hlt := hT.lt
  have hst := Still.of_below (Below.alloc (Below.refl W.heap.size W) (Nat.le_refl _) (.cells #[.func (.func g) #[] #[]] 105))
  have hT1 := hT.still hst (Below.heap_alloc W _ b hlt)
  obtain ⟨W', hr, hg', hT'⟩ := hT1.put (v := .func (.func 104) #[] #[.pointer (some ⟨W.heap.size, 0, none⟩)]) (not_and hn hl) (.inr <| .inl ⟨s, g, hg, rfl, W.heap.size, by simp, rfl, by simp [go_sem]⟩)
  have HF : Lays b (And' S (ky 4 4 s :: l)) W (.returned (.tuple #[])) W' := ⟨rfl, (World.grownBy_alloc W _ _).trans hg', hT'.congr fun k => And'.step k⟩
  clear hT hT1 hT' hg' hst hn hg hl
  unfold ky at hr
  go_enter Try.func103, Try.ntmps103
  go_wp2
  go_end0
  exact HF
theorem ints_any (b : Nat) (S : Value → Prop) (W : World) (hT : Tab W b (And' S [])) (hn : ∀ s, ¬ S (ky 1 1 s)) :
    Calls Try.prog 47 #[.map (some b)] W (Lays b (And' S [ky 1 1 ⟨#[77, 79, 68]⟩, ky 1 1 ⟨#[68, 73, 86]⟩, ky 1 1 ⟨#[42]⟩, ky 1 1 ⟨#[45]⟩, ky 1 1 ⟨#[43]⟩]) W) := by
  have hlt := hT.lt
  have hst0 := Still.of_below (Below.alloc (Below.refl W.heap.size W) (Nat.le_refl _) (.cells #[.map (some b)] 71))
  have hg0 := World.grownBy_alloc W (.cells #[.map (some b)] 71) (some b)
  have hT0 := hT.still hst0 (Below.heap_alloc W _ b hlt)
  have hp0 : (W.alloc (.cells #[.map (some b)] 71)).cell? ⟨W.heap.size, 0, none⟩ = some (.map (some b)) := by simp [go_sem]
  have hl0 : W.heap.size < (W.alloc (.cells #[.map (some b)] 71)).heap.size := by simp
  go_enter Try.func47, Try.ntmps47
  go_wp2_with fail
  refine (put_ints ⟨#[43]⟩ 97 W.heap.size b S _ _ (by simp [intsAt]) hT0 (hn _) (by simp [ky]) hp0 hl0).mono ?_
  rintro e W1 ⟨rfl, hg1, hT1⟩
  have hp1 := (hT0.stays hg1).2 _ _ hp0
  have hl1 := Nat.lt_of_lt_of_le hl0 hg1.size
  go_wp2_with fail
  refine (put_ints ⟨#[45]⟩ 98 W.heap.size b S _ _ (by simp [intsAt]) hT1 (hn _) (by simp [ky]) hp1 hl1).mono ?_
  rintro e W2 ⟨rfl, hg2, hT2⟩
  have hp2 := (hT1.stays hg2).2 _ _ hp1
  have hl2 := Nat.lt_of_lt_of_le hl1 hg2.size
  go_wp2_with fail
  refine (put_ints ⟨#[42]⟩ 99 W.heap.size b S _ _ (by simp [intsAt]) hT2 (hn _) (by simp [ky]) hp2 hl2).mono ?_
  rintro e W3 ⟨rfl, hg3, hT3⟩
  have hp3 := (hT2.stays hg3).2 _ _ hp2
  have hl3 := Nat.lt_of_lt_of_le hl2 hg3.size
  go_wp2_with fail
  refine (put_ints ⟨#[68, 73, 86]⟩ 100 W.heap.size b S _ _ (by simp [intsAt]) hT3 (hn _) (by simp [ky]) hp3 hl3).mono ?_
  rintro e W4 ⟨rfl, hg4, hT4⟩
  have hp4 := (hT3.stays hg4).2 _ _ hp3
  have hl4 := Nat.lt_of_lt_of_le hl3 hg4.size
  go_wp2_with fail
  refine (put_ints ⟨#[77, 79, 68]⟩ 102 W.heap.size b S _ _ (by simp [intsAt]) hT4 (hn _) (by simp [ky]) hp4 hl4).mono ?_
  rintro e W5 ⟨rfl, hg5, hT5⟩
  have hp5 := (hT4.stays hg5).2 _ _ hp4
  have hl5 := Nat.lt_of_lt_of_le hl4 hg5.size
  go_wp2_with fail
  go_end0
  exact ⟨rfl, hg0.trans (hg1.trans (hg2.trans (hg3.trans (hg4.trans hg5)))), hT5⟩
theorem sets_any (b : Nat) (S : Value → Prop) (W : World) (hT : Tab W b (And' S [])) (hn : ∀ s, ¬ S (ky 4 4 s)) (hn2 : ¬ S (ky 1 4 ⟨#[73, 78]⟩)) :
    Calls Try.prog 48 #[.map (some b)] W (Lays b (And' S [ky 1 4 ⟨#[73, 78]⟩, ky 4 4 ⟨#[47]⟩, ky 4 4 ⟨#[42]⟩, ky 4 4 ⟨#[45]⟩, ky 4 4 ⟨#[43]⟩]) W) := by
  have hlt := hT.lt
  have hst0 := Still.of_below (Below.alloc (Below.refl W.heap.size W) (Nat.le_refl _) (.cells #[.map (some b)] 71))
  have hg0 := World.grownBy_alloc W (.cells #[.map (some b)] 71) (some b)
  have hT0 := hT.still hst0 (Below.heap_alloc W _ b hlt)
  have hp0 : (W.alloc (.cells #[.map (some b)] 71)).cell? ⟨W.heap.size, 0, none⟩ = some (.map (some b)) := by simp [go_sem]
  have hl0 : W.heap.size < (W.alloc (.cells #[.map (some b)] 71)).heap.size := by simp
  go_enter Try.func48, Try.ntmps48
  go_wp2_with fail
  refine (put_sets ⟨#[43]⟩ 105 W.heap.size b S _ _ (by simp [setsAt]) hT0 (hn _) (by simp [ky]) hp0 hl0).mono ?_
  rintro e W1 ⟨rfl, hg1, hT1⟩
  have hp1 := (hT0.stays hg1).2 _ _ hp0
  have hl1 := Nat.lt_of_lt_of_le hl0 hg1.size
  go_wp2_with fail
  refine (put_sets ⟨#[45]⟩ 106 W.heap.size b S _ _ (by simp [setsAt]) hT1 (hn _) (by simp [ky]) hp1 hl1).mono ?_
  rintro e W2 ⟨rfl, hg2, hT2⟩
  have hp2 := (hT1.stays hg2).2 _ _ hp1
  have hl2 := Nat.lt_of_lt_of_le hl1 hg2.size
  go_wp2_with fail
  refine (put_sets ⟨#[42]⟩ 107 W.heap.size b S _ _ (by simp [setsAt]) hT2 (hn _) (by simp [ky]) hp2 hl2).mono ?_
  rintro e W3 ⟨rfl, hg3, hT3⟩
  have hp3 := (hT2.stays hg3).2 _ _ hp2
  have hl3 := Nat.lt_of_lt_of_le hl2 hg3.size
  go_wp2_with fail
  refine (put_sets ⟨#[47]⟩ 108 W.heap.size b S _ _ (by simp [setsAt]) hT3 (hn _) (by simp [ky]) hp3 hl3).mono ?_
  rintro e W4 ⟨rfl, hg4, hT4⟩
  have hp4 := (hT3.stays hg4).2 _ _ hp3
  have hl4 := Nat.lt_of_lt_of_le hl3 hg4.size
  obtain ⟨W5, hr, hg5, hT5⟩ := hT4.put (key := ky 1 4 ⟨#[73, 78]⟩) (v := .func (.func 109) #[] #[]) (not_and hn2 (by simp [ky])) (.inr <| .inr <| .inl ⟨rfl, rfl⟩)
  have HF : Lays b (And' S [ky 1 4 ⟨#[73, 78]⟩, ky 4 4 ⟨#[47]⟩, ky 4 4 ⟨#[42]⟩, ky 4 4 ⟨#[45]⟩, ky 4 4 ⟨#[43]⟩]) W (.returned (.tuple #[])) W5 := ⟨rfl, hg0.trans (hg1.trans (hg2.trans (hg3.trans (hg4.trans hg5)))), hT5.congr fun k => And'.step k⟩
  clear hT5 hg5
  unfold ky at hr
  go_wp2_with fail
  go_end0
  exact HF
end Go.Proofs.Ythcpedonpiihnaa
