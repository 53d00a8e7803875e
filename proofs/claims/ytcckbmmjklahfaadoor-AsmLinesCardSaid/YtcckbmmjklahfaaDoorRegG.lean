/- A region that draws its order, where what holds of the world may hang on which operations have come up: a load may be taken first though a store behind it writes its cell. Conditions: the store waits, by way of others, for the load. A region that draws its order: an operation may be taken first, what it waits for having come up. Conditions: as RegG's. -/
import Derived.OrdersHeld
import Derived.Deep.RegionHeld
import Derived.BigQuiet
namespace Go.Proofs.YtcckbmmjklahfaaDoor
set_option linter.all false
open Go.RowKit
section
variable {P : Program} {ops : Array Oper} {Q : Exit → Act → World → Prop} {md : Region.Mode} {S : Array Bool → World → Prop}
/-- what has come up has come up behind what it waits for -/
def Closed (md : Region.Mode) (ops : Array Oper) (L : Array Bool) : Prop := ∀ j o, ops[j]? = some o → L.getD j false = true → ∀ e ∈ o.after, Region.binds md e = true → L.getD e.on false = true
def wpAnyG (P : Program) (md : Region.Mode) (ops : Array Oper) (Q : Exit → Act → World → Prop) (S : Array Bool → World → Prop) : Nat → Array Bool → Act → World → Prop
  | 0, listed, a, w => Region.ready md ops listed = [] ∧ Q .normal a w
  | fuel + 1, listed, a, w =>
    (Region.ready md ops listed = [] → Q .normal a w) ∧
    ∀ i ∈ Region.ready md ops listed, wpOp P ops Q i (fun a' w' => S (listed.setIfInBounds i true) w' ∧ wpAnyG P md ops Q S fuel (listed.setIfInBounds i true) a' w') a w
theorem wpAny_of_G : ∀ (fuel : Nat) (listed : Array Bool) (a : Act) (w : World), wpAnyG P md ops Q S fuel listed a w → wpAny P md ops Q fuel listed a w
  | 0, _, _, _, h => h
  | fuel + 1, _, _, _, h => ⟨h.1, fun i hi => wpOp_mono (fun a' w' h' => wpAny_of_G fuel _ a' w' h'.2) (h.2 i hi)⟩
/-- what holds in some order in which i has not come up -/
def Star (md : Region.Mode) (ops : Array Oper) (S : Array Bool → World → Prop) (n i : Nat) (w : World) : Prop := ∃ L : Array Bool, L.size = n ∧ Closed md ops L ∧ L.getD i true = false ∧ S L w
theorem closed_put {listed : Array Bool} {j : Nat} (hc : Closed md ops listed) (hj : j ∈ Region.ready md ops listed) : Closed md ops (listed.setIfInBounds j true) := by
  intro k o ho hk e he hb
  by_cases hkj : k = j
  · subst hkj
    obtain ⟨_, o', ho', hall⟩ := mem_ready.1 hj
    rw [ho] at ho'
    simp only [Option.some.injEq] at ho'
    subst ho'
    exact getD_set_true (hall e he hb)
  · rw [getD_set_ne false (Ne.symm hkj)] at hk
    exact getD_set_true (hc k o ho hk e he hb)
theorem wpAnyG_first {n i : Nat} {oi : Oper} {v : Value} (hi : ops[i]? = some oi) (hsel : ∀ (j : Nat) (o : Oper) cs b, ops[j]? = some o → o.op ≠ .select cs b)
    (hQ : ∀ c a w, Q (.panic c) (a.put oi.dst v) w → Q (.panic c) a w) (hS1 : ∀ L w, L.size = n → (S (L.setIfInBounds i true) w ↔ S L w)) :
    ∀ (fuel : Nat) (listed : Array Bool) (a : Act) (w : World), listed.size = n →
      (∀ j oj, ops[j]? = some oj → j ≠ i → listed.getD j true = false → (∀ e ∈ oj.after, Region.binds md e = true → e.on ≠ i) → oi.apart ops oj = true) →
      i ∈ Region.ready md ops listed → Closed md ops listed → YieldsIf P ops (Star md ops S n i) oi v a → S listed w →
      wpAnyG P md ops Q S fuel (listed.setIfInBounds i true) (a.put oi.dst v) w → wpAnyG P md ops Q S (fuel + 1) listed a w := by
  intro fuel
  induction fuel with
  | zero =>
    intro listed a w hn _ hr hc hy hS H
    refine ⟨fun h => (by rw [h] at hr; cases hr), fun j hj => ?_⟩
    by_cases hji : j = i
    · subst hji; exact hy.wpOp hi ⟨listed, hn, hc, (mem_ready.1 hr).1, hS⟩ ⟨(hS1 _ _ hn).2 hS, H⟩
    · have := ready_mono hj hji
      rw [H.1] at this
      cases this
  | succ fuel ih =>
    intro listed a w hn hfree hr hc hy hS H
    refine ⟨fun h => (by rw [h] at hr; cases hr), fun j hj => ?_⟩
    by_cases hji : j = i
    · subst hji; exact hy.wpOp hi ⟨listed, hn, hc, (mem_ready.1 hr).1, hS⟩ ⟨(hS1 _ _ hn).2 hS, H⟩
    · have h1 := H.2 j (ready_mono hj hji)
      obtain ⟨hjun, oj, hoj, hall⟩ := mem_ready.1 hj
      have hnot : ∀ e ∈ oj.after, Region.binds md e = true → e.on ≠ i := fun e he hb heq => by
        have h1 := hall e he hb
        have h0 := (mem_ready.1 hr).1
        rw [heq] at h1
        rcases Nat.lt_or_ge i listed.size with h' | h'
        · simp [h'] at h0 h1; rw [h0] at h1; cases h1
        · simp [Array.getElem?_eq_none h'] at h1
      have h2 := wpOp_putIf hoj (hfree j oj hoj hji hjun hnot) (fun cs b => hsel i oi cs b hi) (fun cs b => hsel j oj cs b hoj) hQ hy h1
      have hfree' : ∀ k ok, ops[k]? = some ok → k ≠ i → (listed.setIfInBounds j true).getD k true = false →
          (∀ e ∈ ok.after, Region.binds md e = true → e.on ≠ i) → oi.apart ops ok = true := fun k ok hk hki hun hno => by
        refine hfree k ok hk hki ?_ hno
        by_cases hjk : j = k
        · subst hjk; exact hjun
        · rw [getD_set_ne true hjk] at hun; exact hun
      have hn' : (listed.setIfInBounds j true).size = n := by rw [Array.size_setIfInBounds, hn]
      refine wpOp_mono (fun a' w' h3 => ?_) h2
      obtain ⟨h3y, h3S, h3⟩ := h3
      rw [Array.setIfInBounds_comm _ _ (Ne.symm hji)] at h3S
      have hS' := (hS1 _ _ hn').1 h3S
      refine ⟨hS', ih (listed.setIfInBounds j true) a' w' hn' hfree' (ready_mono hr (Ne.symm hji)) (closed_put hc hj) h3y hS' ?_⟩
      rw [Array.setIfInBounds_comm _ _ hji]
      exact h3
/-- the same, with the order in which things have come up told by a list of numbers: S hangs on them -/
theorem wpAnyG_take {n i : Nat} {oi : Oper} {v : Value} {fuel : Nat} {listed : Array Bool} {a : Act} {w : World} (hi' : ops.toList[i]? = some oi)
    (hs : Region.noSelect ops = true) (hf : Region.free md ops listed i = true) (hr : (Region.ready md ops listed).contains i = true)
    (hn : listed.size = n) (hS1 : ∀ L w, L.size = n → (S (L.setIfInBounds i true) w ↔ S L w))
    (hQ : ∀ c a w, Q (.panic c) (a.put oi.dst v) w → Q (.panic c) a w) (hc : Closed md ops listed) (hy : YieldsIf P ops (Star md ops S n i) oi v a) (hS : S listed w)
    (h : Closed md ops (listed.setIfInBounds i true) → S (listed.setIfInBounds i true) w → wpAnyG P md ops Q S fuel (listed.setIfInBounds i true) (a.put oi.dst v) w) : wpAnyG P md ops Q S (fuel + 1) listed a w := by
  have hi : ops[i]? = some oi := by simpa using hi'
  have hr' : i ∈ Region.ready md ops listed := by simpa using hr
  exact wpAnyG_first hi (Region.noSelect_spec hs) hQ hS1 fuel listed a w hn (Region.free_spec hi hf) hr' hc hy hS (h (closed_put hc hr') ((hS1 _ _ hn).2 hS))
theorem wpAnyG_done {listed : Array Bool} {a : Act} {w : World} (hr : Region.ready md ops listed = []) (h : Q .normal a w) :
    ∀ fuel, wpAnyG P md ops Q S fuel listed a w
  | 0 => ⟨hr, h⟩
  | _ + 1 => ⟨fun _ => h, by rw [hr]; simp⟩
def AllReadyG (P : Program) (md : Region.Mode) (ops : Array Oper) (Q : Exit → Act → World → Prop) (S : Array Bool → World → Prop) (fuel : Nat) (listed : Array Bool) (a : Act) (w : World) (rs : List Nat) : Prop :=
  ∀ i ∈ rs, wpOp P ops Q i (fun a' w' => S (listed.setIfInBounds i true) w' ∧ wpAnyG P md ops Q S fuel (listed.setIfInBounds i true) a' w') a w
theorem AllReadyG.nil {fuel : Nat} {listed : Array Bool} {a : Act} {w : World} : AllReadyG P md ops Q S fuel listed a w [] := fun _ h => by cases h
theorem AllReadyG.cons {fuel : Nat} {listed : Array Bool} {a : Act} {w : World} {i : Nat} {o : Oper} {rs : List Nat} (ho' : ops.toList[i]? = some o)
    (h : ∀ K' : Act → World → Prop, Shut (∀ a w, S (listed.setIfInBounds i true) w → (S (listed.setIfInBounds i true) w → wpAnyG P md ops Q S fuel (listed.setIfInBounds i true) a w) → K' a w) → if Region.wanted o (yielded ops a.tmps) = true then Oper.wp P o a w K' Q else K' (a.put o.dst undef) w)
    (hs : AllReadyG P md ops Q S fuel listed a w rs) : AllReadyG P md ops Q S fuel listed a w (i :: rs) := fun j hj => by
  rcases List.mem_cons.1 hj with rfl | hj
  · have ho : ops[j]? = some o := by simpa using ho'
    exact wpOp_step ho (fun K' hK => h K' (fun a w hS hW => hK a w ⟨hS, hW hS⟩))
  · exact hs j hj
theorem wpAnyG_ready {rs : List Nat} {fuel : Nat} {listed : Array Bool} {a : Act} {w : World} (hr : Region.ready md ops listed = rs) (hne : rs ≠ [])
    (h : AllReadyG P md ops Q S fuel listed a w rs) : wpAnyG P md ops Q S (fuel + 1) listed a w := ⟨fun h0 => absurd (hr ▸ h0) hne, hr ▸ h⟩
theorem closed_none (md : Region.Mode) (ops : Array Oper) (n : Nat) : Closed md ops (Array.replicate n false) := by
  intro j o _ hj
  exfalso
  simp [Array.getD] at hj
/-- 'Closed', reckoned -/
def closedB (md : Region.Mode) (ops : Array Oper) (L : Array Bool) : Bool := (List.range ops.size).all fun j => !L.getD j false || ((ops[j]?).map fun o => o.after.all fun e => !Region.binds md e || L.getD e.on false).getD true
theorem closed_all {md : Region.Mode} {ops : Array Oper} {L : Array Bool} (h : closedB md ops L = true) : Closed md ops L := by
  intro j o ho hj e he hb
  have hlt := (Array.getElem?_eq_some_iff.1 ho).1
  have h1 := List.all_eq_true.1 h j (List.mem_range.2 hlt)
  rw [hj, ho] at h1
  simp only [Bool.not_true, Bool.false_or, Option.map_some, Option.getD_some, Array.all_eq_true'] at h1
  have h2 := h1 e he
  rw [hb] at h2
  simpa using h2
theorem wp_region_G {id : Nat} {a : Act} {w : World} (S : Array Bool → World → Prop) (n : Nat) (hm : P.follows .mixedOrders = true) (hn : ops.size = n) (hS : S (Array.replicate n false) w.drew)
    (h : Closed .any ops (Array.replicate n false) → S (Array.replicate n false) w.drew → wpAnyG P .any ops Q S n (Array.replicate n false) a w.drew) : (Code.region id ops true).wp P Q a w := by
  subst hn
  exact wp_region_any hm (wpAny_of_G _ _ _ _ (h (closed_none _ _ _) hS))
end
end Go.Proofs.YtcckbmmjklahfaaDoor

namespace Go.Proofs.YtcckbmmjklahfaaDoor
set_option linter.all false
open Go.RowKit
section
variable {P : Program} {ops : Array Oper} {Q : Exit → Act → World → Prop} {md : Region.Mode} {S : Array Bool → World → Prop}
/-- what holds in some order in which i has not come up, and what i waits for has -/
def StarD (md : Region.Mode) (ops : Array Oper) (S : Array Bool → World → Prop) (n i : Nat) (w : World) : Prop :=
  ∃ L : Array Bool, L.size = n ∧ Closed md ops L ∧ (∀ o, ops[i]? = some o → ∀ e ∈ o.after, Region.binds md e = true → L.getD e.on false = true) ∧ S L w
theorem starD_of {listed : Array Bool} {n i : Nat} {w : World} (hn : listed.size = n) (hc : Closed md ops listed) (hr : i ∈ Region.ready md ops listed) (hS : S listed w) : StarD md ops S n i w := by
  obtain ⟨_, oi, hoi, hall⟩ := mem_ready.1 hr
  refine ⟨listed, hn, hc, fun o ho e he hb => ?_, hS⟩
  rw [hoi] at ho
  simp only [Option.some.injEq] at ho
  subst ho
  exact hall e he hb
theorem wpAnyD_first {n i : Nat} {oi : Oper} {v : Value} (hi : ops[i]? = some oi) (hsel : ∀ (j : Nat) (o : Oper) cs b, ops[j]? = some o → o.op ≠ .select cs b)
    (hQ : ∀ c a w, Q (.panic c) (a.put oi.dst v) w → Q (.panic c) a w) (hS1 : ∀ L w, L.size = n → (S (L.setIfInBounds i true) w ↔ S L w)) :
    ∀ (fuel : Nat) (listed : Array Bool) (a : Act) (w : World), listed.size = n →
      (∀ j oj, ops[j]? = some oj → j ≠ i → listed.getD j true = false → (∀ e ∈ oj.after, Region.binds md e = true → e.on ≠ i) → oi.apart ops oj = true) →
      i ∈ Region.ready md ops listed → Closed md ops listed → YieldsIf P ops (StarD md ops S n i) oi v a → S listed w →
      wpAnyG P md ops Q S fuel (listed.setIfInBounds i true) (a.put oi.dst v) w → wpAnyG P md ops Q S (fuel + 1) listed a w := by
  intro fuel
  induction fuel with
  | zero =>
    intro listed a w hn _ hr hc hy hS H
    refine ⟨fun h => (by rw [h] at hr; cases hr), fun j hj => ?_⟩
    by_cases hji : j = i
    · subst hji; exact hy.wpOp hi (starD_of hn hc hr hS) ⟨(hS1 _ _ hn).2 hS, H⟩
    · have := ready_mono hj hji
      rw [H.1] at this
      cases this
  | succ fuel ih =>
    intro listed a w hn hfree hr hc hy hS H
    refine ⟨fun h => (by rw [h] at hr; cases hr), fun j hj => ?_⟩
    by_cases hji : j = i
    · subst hji; exact hy.wpOp hi (starD_of hn hc hr hS) ⟨(hS1 _ _ hn).2 hS, H⟩
    · have h1 := H.2 j (ready_mono hj hji)
      obtain ⟨hjun, oj, hoj, hall⟩ := mem_ready.1 hj
      have hnot : ∀ e ∈ oj.after, Region.binds md e = true → e.on ≠ i := fun e he hb heq => by
        have h1 := hall e he hb
        have h0 := (mem_ready.1 hr).1
        rw [heq] at h1
        rcases Nat.lt_or_ge i listed.size with h' | h'
        · simp [h'] at h0 h1; rw [h0] at h1; cases h1
        · simp [Array.getElem?_eq_none h'] at h1
      have h2 := wpOp_putIf hoj (hfree j oj hoj hji hjun hnot) (fun cs b => hsel i oi cs b hi) (fun cs b => hsel j oj cs b hoj) hQ hy h1
      have hfree' : ∀ k ok, ops[k]? = some ok → k ≠ i → (listed.setIfInBounds j true).getD k true = false →
          (∀ e ∈ ok.after, Region.binds md e = true → e.on ≠ i) → oi.apart ops ok = true := fun k ok hk hki hun hno => by
        refine hfree k ok hk hki ?_ hno
        by_cases hjk : j = k
        · subst hjk; exact hjun
        · rw [getD_set_ne true hjk] at hun; exact hun
      have hn' : (listed.setIfInBounds j true).size = n := by rw [Array.size_setIfInBounds, hn]
      refine wpOp_mono (fun a' w' h3 => ?_) h2
      obtain ⟨h3y, h3S, h3⟩ := h3
      rw [Array.setIfInBounds_comm _ _ (Ne.symm hji)] at h3S
      have hS' := (hS1 _ _ hn').1 h3S
      refine ⟨hS', ih (listed.setIfInBounds j true) a' w' hn' hfree' (ready_mono hr (Ne.symm hji)) (closed_put hc hj) h3y hS' ?_⟩
      rw [Array.setIfInBounds_comm _ _ hji]
      exact h3
theorem wpAnyD_take {n i : Nat} {oi : Oper} {v : Value} {fuel : Nat} {listed : Array Bool} {a : Act} {w : World} (hi' : ops.toList[i]? = some oi)
    (hs : Region.noSelect ops = true) (hf : Region.free md ops listed i = true) (hr : (Region.ready md ops listed).contains i = true)
    (hn : listed.size = n) (hS1 : ∀ L w, L.size = n → (S (L.setIfInBounds i true) w ↔ S L w))
    (hQ : ∀ c a w, Q (.panic c) (a.put oi.dst v) w → Q (.panic c) a w) (hc : Closed md ops listed) (hy : YieldsIf P ops (StarD md ops S n i) oi v a) (hS : S listed w)
    (h : wpAnyG P md ops Q S fuel (listed.setIfInBounds i true) (a.put oi.dst v) w) : wpAnyG P md ops Q S (fuel + 1) listed a w := by
  have hi : ops[i]? = some oi := by simpa using hi'
  have hr' : i ∈ Region.ready md ops listed := by simpa using hr
  exact wpAnyD_first hi (Region.noSelect_spec hs) hQ hS1 fuel listed a w hn (Region.free_spec hi hf) hr' hc hy hS h
/-- does k wait for i? -/
def waitsD (md : Region.Mode) (ops : Array Oper) (k i : Nat) : Bool := ((ops[k]?).map fun o => o.after.any fun e => Region.binds md e && e.on == i).getD false
theorem closed_waitsD {L : Array Bool} {k i : Nat} (hw : waitsD md ops k i = true) (hc : Closed md ops L) (hk : L.getD k false = true) : L.getD i false = true := by
  unfold waitsD at hw
  cases ho : ops[k]? with
  | none => rw [ho] at hw; cases hw
  | some o =>
    rw [ho] at hw
    simp only [Option.map_some, Option.getD_some, Array.any_eq_true'] at hw
    obtain ⟨e, he, hb⟩ := hw
    simp only [Bool.and_eq_true, beq_iff_eq] at hb
    have := hc k o ho hk e he hb.1
    rw [hb.2] at this
    exact this
theorem dep_waitsD {L : Array Bool} {k i : Nat} (hw : waitsD md ops k i = true) (hd : ∀ o, ops[k]? = some o → ∀ e ∈ o.after, Region.binds md e = true → L.getD e.on false = true) : L.getD i false = true := by
  unfold waitsD at hw
  cases ho : ops[k]? with
  | none => rw [ho] at hw; cases hw
  | some o =>
    rw [ho] at hw
    simp only [Option.map_some, Option.getD_some, Array.any_eq_true'] at hw
    obtain ⟨e, he, hb⟩ := hw
    simp only [Bool.and_eq_true, beq_iff_eq] at hb
    have := hd o ho e he hb.1
    rw [hb.2] at this
    exact this
/-- base facts, and a fact that holds once operation z has come up -/
def SD (z : Nat) (B C : World → Prop) (L : Array Bool) (X : World) : Prop := B X ∧ (L.getD z false = true → C X)
theorem SD_put {z n i : Nat} {B C : World → Prop} (h : i ≠ z) : ∀ (L : Array Bool) (X : World), L.size = n → (SD z B C (L.setIfInBounds i true) X ↔ SD z B C L X) := by
  intro L X _
  unfold SD
  rw [getD_set_ne false h]
theorem starD_base {z n i : Nat} {B C : World → Prop} {X : World} (h : StarD md ops (SD z B C) n i X) : B X := by
  obtain ⟨L, _, _, _, h⟩ := h; exact h.1
/-- i waits for m, m for z: z has come up -/
theorem starD_late {z n i m : Nat} {B C : World → Prop} {X : World} (h : StarD md ops (SD z B C) n i X) (h1 : waitsD md ops i m = true) (h2 : m = z ∨ waitsD md ops m z = true) : C X := by
  obtain ⟨L, hn, hc, hd, h⟩ := h
  refine h.2 ?_
  rcases h2 with h2 | h2
  · subst h2; exact dep_waitsD h1 hd
  · exact closed_waitsD h2 hc (dep_waitsD h1 hd)
end
end Go.Proofs.YtcckbmmjklahfaaDoor
