/- What follows a token does not change it, as long as it does not go on with it. No program in sight. -/
import Derived.Test.YtcoakhahjdnlfaaDoorTokP
namespace Go.Proofs.YtcoakhahjdnlfaaDoor
set_option linter.all false
namespace Tk
/-- what ends any token: nothing, a blank, or an opened bracket -/
def brk (z : List UInt8) : Prop := z = [] ∨ ∃ c t, z = c :: t ∧ (c = 9 ∨ c = 10 ∨ c = 13 ∨ c = 32 ∨ c = 40)
/-- z goes on as y does, or ends any token -/
def like (y z : List UInt8) : Prop := (z.take 1 = y.take 1 ∧ dots z = dots y) ∨ brk z
theorem tw_prefix (p : UInt8 → Bool) (l : List UInt8) : l.take (l.takeWhile p).length = l.takeWhile p := by
  induction l with
  | nil => rfl
  | cons a t ih =>
    rw [List.takeWhile_cons]
    split
    · simp [ih]
    · simp
theorem tw_eq {p : UInt8 → Bool} {x y : List UInt8} (h : ((x ++ y).takeWhile p).length = x.length) : (x ++ y).takeWhile p = x := by
  have := tw_prefix p (x ++ y)
  rw [h] at this
  rw [← this]; simp
theorem tw_all (p : UInt8 → Bool) (l : List UInt8) : ∀ c ∈ l.takeWhile p, p c = true := by
  induction l with
  | nil => simp
  | cons a t ih =>
    rw [List.takeWhile_cons]
    split
    · rename_i h
      intro c hc
      rcases List.mem_cons.1 hc with rfl | hc
      · exact h
      · exact ih c hc
    · simp
/-- all of x, and no further -/
theorem tw_of (p : UInt8 → Bool) {x z : List UInt8} (hx : ∀ c ∈ x, p c = true) (hz : ∀ c t, z = c :: t → p c = false) : (x ++ z).takeWhile p = x := by
  induction x with
  | nil =>
    match z, hz with
    | [], _ => rfl
    | c :: t, hz => rw [List.nil_append, List.takeWhile_cons, hz c t rfl]; rfl
  | cons a x ih =>
    rw [List.cons_append, List.takeWhile_cons, if_pos (hx a (List.mem_cons_self ..)), ih fun c hc => hx c (List.mem_cons_of_mem _ hc)]
theorem tw_stop {p : UInt8 → Bool} {x y : List UInt8} (h : (x ++ y).takeWhile p = x) : ∀ c t, y = c :: t → p c = false := by
  induction x with
  | nil =>
    intro c t hy
    subst hy
    rw [List.nil_append, List.takeWhile_cons] at h
    split at h
    · cases h
    · rename_i hc; simpa using hc
  | cons a x ih =>
    rw [List.cons_append, List.takeWhile_cons] at h
    split at h
    · exact ih (by simpa using h)
    · cases h
theorem brk_no {z : List UInt8} (h : brk z) : ∀ c t, z = c :: t → inside c = false ∧ hexa c = false ∧ c ≠ 72 ∧ c ≠ 88 ∧ c ≠ 46 ∧ c ≠ 61 ∧ c ≠ 34 := by
  intro c t hz
  rcases h with rfl | ⟨c', t', rfl, h⟩
  · cases hz
  · simp only [List.cons.injEq] at hz
    obtain ⟨rfl, rfl⟩ := hz
    rcases h with rfl | rfl | rfl | rfl | rfl <;> decide
theorem like_no {p : UInt8 → Bool} {y z : List UInt8} (hl : like y z) (hp : ∀ c, inside c = false → hexa c = false → p c = false) (hy : ∀ c t, y = c :: t → p c = false) : ∀ c t, z = c :: t → p c = false := by
  intro c t hz
  rcases hl with ⟨h1, _⟩ | hb
  · subst hz
    match y, h1 with
    | [], h1 => simp at h1
    | b :: u, h1 =>
      simp at h1
      subst h1
      exact hy c u rfl
  · have := brk_no hb c t hz
    exact hp c this.1 this.2.1
theorem dots_brk {z : List UInt8} (h : brk z) : dots z = false := by
  rcases h with rfl | ⟨c, t, rfl, h⟩
  · rfl
  · have : c ≠ 46 := by rcases h with rfl | rfl | rfl | rfl | rfl <;> decide
    simp [dots, this]
theorem take1_of_brk {z : List UInt8} (h : brk z) (x : UInt8) (hx : x = 72 ∨ x = 88 ∨ x = 34) : z.take 1 ≠ [x] := by
  intro e
  rcases h with rfl | ⟨c, t, rfl, h⟩
  · simp at e
  · simp at e
    subst e
    rcases hx with rfl | rfl | rfl <;> revert h <;> decide
theorem word_cut {x y z : List UInt8} {k n : Int} {w : List UInt8} (h : wordT (x ++ y) = .ok (k, w, n, x.length)) (hl : like y z) : wordT (x ++ z) = .ok (k, w, n, x.length) := by
  have hlen : ((x ++ y).takeWhile inside).length = x.length := by
    unfold wordT at h
    simp only at h
    split at h
    · simp at h; exact h.2.2.2
    · split at h
      · cases h
      · simp at h; exact h.2.2.2
  have hx := tw_eq hlen
  have hall : ∀ c ∈ x, inside c = true := by rw [← hx]; exact tw_all _ _
  have hz := tw_of inside hall (like_no hl (fun c h _ => h) (tw_stop hx))
  unfold wordT at h ⊢
  rw [hx] at h
  rw [hz]
  exact h
theorem num_cut {x y z : List UInt8} {k n : Int} {w : List UInt8} (h : numT (x ++ y) = .ok (k, w, n, x.length)) (hl : like y z) : numT (x ++ z) = .ok (k, w, n, x.length) := by
  have key : ∀ (c : UInt8), hexa c = false → ∀ d : List UInt8, (x ++ y).takeWhile hexa = d → ((x ++ y).drop d.length).take 1 = [c] → x.length = d.length + 1 → x = d ++ [c] ∧ (x ++ z).takeWhile hexa = d ∧ (x ++ z).drop d.length = c :: z := by
    intro c hc d hd hr hx
    have hpre : (x ++ y).take d.length = d := by rw [← hd]; exact tw_prefix _ _
    have hxd : x = d ++ [c] := by
      have h1 : x = (x ++ y).take (d.length + 1) := by rw [← hx]; simp
      rw [h1, List.take_add, hpre, hr]
    have hall : ∀ b ∈ d, hexa b = true := by rw [← hd]; exact tw_all _ _
    refine ⟨hxd, ?_, ?_⟩
    · rw [hxd, List.append_assoc]
      exact tw_of hexa hall fun b t e => by simp at e; rw [← e.1]; exact hc
    · rw [hxd, List.append_assoc]; simp
  unfold numT at h ⊢
  simp only at h ⊢
  generalize hd : (x ++ y).takeWhile hexa = d at h
  split at h
  · rename_i hr
    split at h
    · rename_i hv
      simp at h
      obtain ⟨h1, h2, h3⟩ := key 72 (by decide) d hd hr h.2.2.2.symm
      rw [h2, h3]
      simp [hv, h]
    · cases h
  · split at h
    · rename_i hr
      split at h
      · rename_i hv
        simp at h
        obtain ⟨h1, h2, h3⟩ := key 88 (by decide) d hd hr h.2.2.2.symm
        rw [h2, h3]
        simp [hv, h]
      · cases h
    · rename_i n1 n2
      split at h
      · cases h
      · rename_i hdd
        split at h
        · rename_i hv
          simp at h
          have hlen : ((x ++ y).takeWhile hexa).length = x.length := by rw [hd]; exact h.2.2.2
          have hx := tw_eq hlen
          have hdx : d = x := hd.symm.trans hx
          subst hdx
          have hall : ∀ c ∈ d, hexa c = true := by rw [← hd]; exact tw_all _ _
          have hz := tw_of hexa hall (like_no hl (fun c _ h => h) (tw_stop hx))
          have hry : (d ++ y).drop d.length = y := by simp
          have hrz : (d ++ z).drop d.length = z := by simp
          rw [hry] at n1 n2 hdd
          rw [hz, hrz]
          have m1 : z.take 1 ≠ [72] := by
            rcases hl with ⟨e, _⟩ | hb
            · rw [e]; exact n1
            · exact take1_of_brk hb 72 (by simp)
          have m2 : z.take 1 ≠ [88] := by
            rcases hl with ⟨e, _⟩ | hb
            · rw [e]; exact n2
            · exact take1_of_brk hb 88 (by simp)
          have m3 : ¬ ((!d.all digit || dots z) = true) := by
            rcases hl with ⟨_, e⟩ | hb
            · rw [e]; exact hdd
            · rw [dots_brk hb]
              intro hh
              apply hdd
              simp at hh
              simp [hh]
          rw [if_neg m1, if_neg m2, if_neg m3, if_pos hv]
          simp [h]
        · cases h
theorem text_cut {x y z : List UInt8} {k n : Int} {w : List UInt8} (h : textT (x ++ y) = .ok (k, w, n, x.length + 1)) : textT (x ++ z) = .ok (k, w, n, x.length + 1) := by
  unfold textT at h ⊢
  simp only at h ⊢
  generalize hd : (x ++ y).takeWhile plain = d at h
  split at h
  · rename_i hr
    split at h
    · cases h
    · rename_i hv
      simp at h
      have hx : x.length = d.length + 1 := by omega
      have hpre : (x ++ y).take d.length = d := by rw [← hd]; exact tw_prefix _ _
      have hxd : x = d ++ [34] := by
        have h1 : x = (x ++ y).take (d.length + 1) := by rw [← hx]; simp
        rw [h1, List.take_add, hpre, hr]
      have hall : ∀ b ∈ d, plain b = true := by rw [← hd]; exact tw_all _ _
      have h2 : (x ++ z).takeWhile plain = d := by
        rw [hxd, List.append_assoc]
        exact tw_of plain hall fun b t e => by simp at e; rw [← e.1]; decide
      have h3 : (x ++ z).drop d.length = 34 :: z := by rw [hxd, List.append_assoc]; simp
      rw [h2, h3]
      simp [hv]
      exact ⟨h.1, h.2.1, h.2.2.1, by omega⟩
  · cases h
theorem sign_cut {x y z : List UInt8} {k n : Int} {w : List UInt8} (h : signT (x ++ y) = .ok (k, w, n, x.length)) (hl : like y z) : signT (x ++ z) = .ok (k, w, n, x.length) := by
  unfold signT at h
  split at h
  · rename_i hs
    simp at h
    have hx : x.length = 2 := by omega
    match x, hx with
    | [a, b], _ =>
      have hs2 : ([a, b] ++ z).take 2 ∈ signs2 := by simpa using hs
      unfold signT
      rw [if_pos hs2]
      simp at h ⊢
      exact h
  · rename_i hs
    split at h
    · rename_i c t hct
      split at h
      · rename_i hc
        simp at h
        have hx : x.length = 1 := by omega
        match x, hx with
        | [a], _ =>
          simp at hct
          obtain ⟨rfl, rfl⟩ := hct
          unfold signT
          have hn : ¬ (([a] ++ z).take 2 ∈ signs2) := by
            have e1 : ([a] ++ z).take 2 = a :: z.take 1 := by simp
            have e2 : ([a] ++ y).take 2 = a :: y.take 1 := by simp
            rw [e1]; rw [e2] at hs
            rcases hl with ⟨e, _⟩ | hb
            · rw [e]; exact hs
            · intro hm
              rcases hb with rfl | ⟨b, u, rfl, hb⟩
              · simp [signs2] at hm
              · simp [signs2] at hm
                rcases hb with rfl | rfl | rfl | rfl | rfl <;> simp at hm
          rw [if_neg hn]
          simp only [List.singleton_append, if_pos hc]
          simp only [List.length_singleton, Except.ok.injEq, Prod.mk.injEq]
          exact ⟨h.1, h.2.1, h.2.2.1, trivial⟩
      · cases h
    · cases h
/-- a token is the same, whatever ends it -/
theorem tok_cut {x y z : List UInt8} {k n : Int} {w : List UInt8} (h : tokF (x ++ y) = .ok (k, w, n, x.length)) (hl : like y z) : tokF (x ++ z) = .ok (k, w, n, x.length) := by
  have hpos := (tokF_len h).1
  match x, hpos with
  | c :: x, _ =>
    unfold tokF at h ⊢
    simp only [List.cons_append] at h ⊢
    split at h
    · rename_i hc
      rw [if_pos hc]
      exact word_cut (x := c :: x) h hl
    · rename_i hc
      rw [if_neg hc]
      split at h
      · rename_i hd
        rw [if_pos hd]
        exact num_cut (x := c :: x) h hl
      · rename_i hd
        rw [if_neg hd]
        split at h
        · rename_i hq
          rw [if_pos hq]
          exact text_cut (x := x) (by simpa using h)
        · rename_i hq
          rw [if_neg hq]
          exact sign_cut (x := c :: x) h hl
end Tk
end Go.Proofs.YtcoakhahjdnlfaaDoor
