/- Tokens further on in a text: their places, shifted; where errors lie; that places rise. No program in sight. -/
import Derived.Test.YtcoakhahjdnlfaaDoorTokJ
namespace Go.Proofs.YtcoakhahjdnlfaaDoor
set_option linter.all false
namespace Tk
/-- the same, d bytes further on -/
def shiftR (d : Nat) (R : Except (Nat × Int) (List Tok)) : Except (Nat × Int) (List Tok) :=
  match R with
  | .ok r => .ok (r.map fun t => (t.1, t.2.1, t.2.2.1, t.2.2.2 + (d : Int)))
  | .error (q, e) => .error (q + d, e)
theorem lex_shift (d : Nat) (l : List UInt8) (p k kk : Nat) (h1 : k + l.length ≤ 6000) (h2 : kk + l.length ≤ 6000) : lexF l (p + d) kk = shiftR d (lexF l p k) := by
  induction hn : l.length using Nat.strongRecOn generalizing l p k kk with
  | _ N ih =>
    match l, hn with
    | [], hn => rw [lexF_nil, lexF_nil]; rfl
    | c :: t, hn =>
      have hl : (c :: t).length = t.length + 1 := rfl
      cases hb : blank c
      · cases ho : opens (c :: t)
        · cases ht : tokF (c :: t) with
          | error e => rw [lexF_err _ _ hb ho ht, lexF_err _ _ hb ho ht]; rfl
          | ok v =>
            obtain ⟨kd, w, n, m⟩ := v
            have hm := tokF_len ht
            rw [lexF_tok _ _ hb ho ht, lexF_tok _ _ hb ho ht, if_neg (by omega), if_neg (by omega)]
            have hd : ((c :: t).drop m).length = (c :: t).length - m := List.length_drop ..
            have := ih _ (by rw [hd]; omega) ((c :: t).drop m) (p + m) (k + 1) (kk + 1) (by omega) (by omega) rfl
            rw [show p + d + m = p + m + d by omega, this]
            cases lexF ((c :: t).drop m) (p + m) (k + 1) with
            | error e => rfl
            | ok r => simp [shiftR]
        · cases hc : cmt (c :: t) 0 with
          | none => rw [lexF_cmt_none _ _ hb ho hc, lexF_cmt_none _ _ hb ho hc]; rfl
          | some m =>
            have hm := cmt_len _ _ _ hc
            rw [lexF_cmt _ _ hb ho hc, lexF_cmt _ _ hb ho hc]
            have hd : ((c :: t).drop m).length = (c :: t).length - m := List.length_drop ..
            have := ih _ (by rw [hd]; omega) ((c :: t).drop m) (p + m) k kk (by omega) (by omega) rfl
            rw [show p + d + m = p + m + d by omega, this]
      · rw [lexF_blank _ _ hb, lexF_blank _ _ hb]
        have := ih t.length (by omega) t (p + 1) k kk (by omega) (by omega) rfl
        rw [show p + d + 1 = p + 1 + d by omega, this]
theorem tokF_errs {l : List UInt8} {c : Int} (h : tokF l = .error c) : c ≠ 0 := by
  intro h0
  subst h0
  unfold tokF at h
  split at h
  · injection h with h; omega
  · split at h
    · unfold wordT at h; simp only at h
      split at h
      · cases h
      · split at h
        · injection h with h; omega
        · cases h
    · split at h
      · unfold numT at h; simp only at h
        split at h
        · split at h
          · cases h
          · injection h with h; omega
        · split at h
          · split at h
            · cases h
            · injection h with h; omega
          · split at h
            · injection h with h; omega
            · split at h
              · cases h
              · injection h with h; omega
      · split at h
        · unfold textT at h; simp only at h
          split at h
          · split at h
            · injection h with h; omega
            · cases h
          · injection h with h; omega
        · unfold signT at h
          split at h
          · cases h
          · split at h
            · split at h
              · cases h
              · injection h with h; omega
            · injection h with h; omega
/-- an error lies in the text, and is one -/
theorem lex_err_at (l : List UInt8) (p k q : Nat) (e : Int) (h : lexF l p k = .error (q, e)) : p ≤ q ∧ q < p + l.length ∧ e ≠ 0 := by
  induction hn : l.length using Nat.strongRecOn generalizing l p k with
  | _ N ih =>
    match l, hn with
    | [], hn => rw [lexF_nil] at h; cases h
    | c :: t, hn =>
      have hl : (c :: t).length = t.length + 1 := rfl
      cases hb : blank c
      · cases ho : opens (c :: t)
        · cases ht : tokF (c :: t) with
          | error e' =>
            rw [lexF_err _ _ hb ho ht] at h
            simp only [Except.error.injEq, Prod.mk.injEq] at h
            obtain ⟨rfl, rfl⟩ := h
            exact ⟨by omega, by omega, tokF_errs ht⟩
          | ok v =>
            obtain ⟨kd, w, n, m⟩ := v
            have hm := tokF_len ht
            rw [lexF_tok _ _ hb ho ht] at h
            split at h
            · simp only [Except.error.injEq, Prod.mk.injEq] at h
              obtain ⟨rfl, rfl⟩ := h
              exact ⟨by omega, by omega, by decide⟩
            · have hd : ((c :: t).drop m).length = (c :: t).length - m := List.length_drop ..
              cases hr : lexF ((c :: t).drop m) (p + m) (k + 1) with
              | error e' =>
                rw [hr] at h
                simp only [Except.error.injEq] at h
                subst h
                have := ih _ (by rw [hd]; omega) ((c :: t).drop m) (p + m) (k + 1) hr rfl
                rw [hd] at this
                exact ⟨by omega, by omega, this.2.2⟩
              | ok r => rw [hr] at h; cases h
        · cases hc : cmt (c :: t) 0 with
          | none =>
            rw [lexF_cmt_none _ _ hb ho hc] at h
            simp only [Except.error.injEq, Prod.mk.injEq] at h
            obtain ⟨rfl, rfl⟩ := h
            exact ⟨by omega, by omega, by decide⟩
          | some m =>
            have hm := cmt_len _ _ _ hc
            rw [lexF_cmt _ _ hb ho hc] at h
            have hd : ((c :: t).drop m).length = (c :: t).length - m := List.length_drop ..
            have := ih _ (by rw [hd]; omega) ((c :: t).drop m) (p + m) k h rfl
            rw [hd] at this
            exact ⟨by omega, by omega, this.2.2⟩
      · rw [lexF_blank _ _ hb] at h
        have := ih t.length (by omega) t (p + 1) k h rfl
        exact ⟨by omega, by omega, this.2.2⟩
/-- the places rise from p on, and lie in the text -/
theorem lex_ats (l : List UInt8) (p k : Nat) (r : List Tok) (h : lexF l p k = .ok r) : (r.map fun t => t.2.2.2.toNat).Pairwise (· ≤ ·) ∧ (∀ t ∈ r, 0 ≤ t.2.2.2 ∧ p ≤ t.2.2.2.toNat ∧ t.2.2.2.toNat < p + l.length) ∧ r.length ≤ l.length := by
  induction hn : l.length using Nat.strongRecOn generalizing l p k r with
  | _ N ih =>
    match l, hn with
    | [], hn => rw [lexF_nil] at h; simp at h; subst h; simp
    | c :: t, hn =>
      have hl : (c :: t).length = t.length + 1 := rfl
      cases hb : blank c
      · cases ho : opens (c :: t)
        · cases ht : tokF (c :: t) with
          | error e' => rw [lexF_err _ _ hb ho ht] at h; cases h
          | ok v =>
            obtain ⟨kd, w, n, m⟩ := v
            have hm := tokF_len ht
            rw [lexF_tok _ _ hb ho ht] at h
            split at h
            · cases h
            · have hd : ((c :: t).drop m).length = (c :: t).length - m := List.length_drop ..
              cases hr : lexF ((c :: t).drop m) (p + m) (k + 1) with
              | error e' => rw [hr] at h; cases h
              | ok r' =>
                rw [hr] at h
                simp only [Except.ok.injEq] at h
                subst h
                obtain ⟨i1, i2, i3⟩ := ih _ (by rw [hd]; omega) ((c :: t).drop m) (p + m) (k + 1) r' hr rfl
                rw [hd] at i2 i3
                refine ⟨?_, ?_, by simp; omega⟩
                · rw [List.map_cons, List.pairwise_cons]
                  refine ⟨fun a ha => ?_, i1⟩
                  obtain ⟨x, hx, rfl⟩ := List.mem_map.1 ha
                  have := i2 x hx
                  simp; omega
                · intro x hx
                  rcases List.mem_cons.1 hx with rfl | hx
                  · simp; omega
                  · have := i2 x hx; omega
        · cases hc : cmt (c :: t) 0 with
          | none => rw [lexF_cmt_none _ _ hb ho hc] at h; cases h
          | some m =>
            have hm := cmt_len _ _ _ hc
            rw [lexF_cmt _ _ hb ho hc] at h
            have hd : ((c :: t).drop m).length = (c :: t).length - m := List.length_drop ..
            obtain ⟨i1, i2, i3⟩ := ih _ (by rw [hd]; omega) ((c :: t).drop m) (p + m) k r h rfl
            rw [hd] at i2 i3
            exact ⟨i1, fun x hx => by have := i2 x hx; omega, by omega⟩
      · rw [lexF_blank _ _ hb] at h
        obtain ⟨i1, i2, i3⟩ := ih t.length (by omega) t (p + 1) k r h rfl
        exact ⟨i1, fun x hx => by have := i2 x hx; omega, by omega⟩
end Tk
end Go.Proofs.YtcoakhahjdnlfaaDoor
