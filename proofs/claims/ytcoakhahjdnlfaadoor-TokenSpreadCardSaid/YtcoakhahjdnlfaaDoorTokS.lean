/- A text with blanks and a comment ahead of each token has the same tokens but for places. No program in sight. -/
import Derived.Test.YtcoakhahjdnlfaaDoorTokJ
namespace Go.Proofs.YtcoakhahjdnlfaaDoor
set_option linter.all false
namespace Tk
theorem cmt_take (l : List UInt8) (d : Int) (n : Nat) (h : cmt l d = some n) : cmt (l.take n) d = some n := by
  induction l, d using cmt.induct generalizing n with
  | case1 => simp [cmt] at h
  | case2 => simp [cmt] at h
  | case3 d a b t hab ih =>
    simp only [cmt, hab, if_true, and_self] at h
    obtain ⟨m, hm, rfl⟩ := Option.map_eq_some_iff.1 h
    simp only [List.take_succ_cons, cmt, hab, if_true, and_self, ih m hm]
    rfl
  | case4 a b t hab hab2 =>
    simp only [cmt, if_neg hab, if_pos hab2, if_true] at h
    simp at h
    subst h
    simp only [List.take_succ_cons, cmt, if_neg hab, if_pos hab2, if_true]
  | case5 d a b t hab hab2 hd ih =>
    simp only [cmt, if_neg hab, if_pos hab2, if_neg hd] at h
    obtain ⟨m, hm, rfl⟩ := Option.map_eq_some_iff.1 h
    simp only [List.take_succ_cons, cmt, if_neg hab, if_pos hab2, if_neg hd, ih m hm]
    rfl
  | case6 d a b t hab hab2 ih =>
    simp only [cmt, if_neg hab, if_neg hab2] at h
    obtain ⟨m, hm, rfl⟩ := Option.map_eq_some_iff.1 h
    have h2 := ih m hm
    have hm2 := cmt_len _ _ _ hm
    obtain ⟨j, rfl⟩ : ∃ j, m = j + 1 := ⟨m - 1, by omega⟩
    simp only [List.take_succ_cons] at h2
    simp only [List.take_succ_cons, cmt, if_neg hab, if_neg hab2, h2]
    rfl
/-- a text with I ahead of each token -/
def spreadF (I : List UInt8) (l : List UInt8) : List UInt8 :=
  match l with
  | [] => []
  | c :: t =>
    if blank c = true then c :: spreadF I t
    else if opens (c :: t) = true then
      match hc : cmt (c :: t) 0 with
      | none => []
      | some n => (c :: t).take n ++ spreadF I ((c :: t).drop n)
    else match ht : tokF (c :: t) with
      | .error _ => []
      | .ok (_, _, _, m) => I ++ ((c :: t).take m ++ spreadF I ((c :: t).drop m))
termination_by l.length
decreasing_by
  · simp
  · have := cmt_len _ _ _ hc; simp at this ⊢; omega
  · have := tokF_len ht; simp at this ⊢; omega
theorem spread_blank {I : List UInt8} {c : UInt8} {t : List UInt8} (h : blank c = true) : spreadF I (c :: t) = c :: spreadF I t := by rw [spreadF, if_pos h]
theorem spread_cmt {I : List UInt8} {c : UInt8} {t : List UInt8} (h : blank c = false) (ho : opens (c :: t) = true) {n : Nat} (hc : cmt (c :: t) 0 = some n) : spreadF I (c :: t) = (c :: t).take n ++ spreadF I ((c :: t).drop n) := by
  rw [spreadF, if_neg (by simp [h]), if_pos ho]
  split
  · rename_i h2; rw [hc] at h2; cases h2
  · rename_i m h2; rw [hc] at h2; simp at h2; rw [h2]
theorem spread_tok {I : List UInt8} {c : UInt8} {t : List UInt8} (h : blank c = false) (ho : opens (c :: t) = false) {kd n : Int} {w : List UInt8} {m : Nat} (ht : tokF (c :: t) = .ok (kd, w, n, m)) :
    spreadF I (c :: t) = I ++ ((c :: t).take m ++ spreadF I ((c :: t).drop m)) := by
  rw [spreadF, if_neg (by simp [h]), if_neg (by simp [ho])]
  split
  · rename_i e' h2; rw [ht] at h2; cases h2
  · rename_i h2; rw [ht] at h2; simp at h2; obtain ⟨rfl, rfl, rfl, rfl⟩ := h2; rfl
def strip (t : Tok) : Int × List UInt8 × Int := (t.1, t.2.1, t.2.2.1)
theorem blank_brk {c : UInt8} (t : List UInt8) (h : blank c = true) : brk (c :: t) := by
  refine .inr ⟨c, t, rfl, ?_⟩
  simp only [blank, Bool.or_eq_true, beq_iff_eq] at h
  rcases h with ((h | h) | h) | h <;> simp [h]
theorem opens_brk {c : UInt8} (t u : List UInt8) (h : opens (c :: t) = true) : brk (c :: u) := by
  refine .inr ⟨c, u, rfl, ?_⟩
  simp only [opens, beq_iff_eq] at h
  match t with
  | [] => simp at h
  | a :: v => simp at h; simp [h]
/-- what is behind a token of a spread text ends it -/
theorem spread_brk (I tail : List UInt8) (hI : brk I) (hne : I ≠ []) (ht : brk tail) (l : List UInt8) (p k : Nat) (r : List Tok) (h : lexF l p k = .ok r) : brk (spreadF I l ++ tail) := by
  have hI2 : ∀ z, brk (I ++ z) := by
    intro z
    rcases hI with h | ⟨c, t, rfl, hc⟩
    · exact absurd h hne
    · exact .inr ⟨c, t ++ z, rfl, hc⟩
  match l with
  | [] => rw [spreadF]; exact ht
  | c :: t =>
    cases hb : blank c
    · cases ho : opens (c :: t)
      · cases htk : tokF (c :: t) with
        | error e => rw [lexF_err p k hb ho htk] at h; cases h
        | ok v =>
          obtain ⟨kd, w, n, m⟩ := v
          rw [spread_tok hb ho htk, List.append_assoc]
          exact hI2 _
      · cases hc : cmt (c :: t) 0 with
        | none => rw [lexF_cmt_none p k hb ho hc] at h; cases h
        | some n =>
          have := cmt_len _ _ _ hc
          rw [spread_cmt hb ho hc]
          obtain ⟨j, rfl⟩ : ∃ j, n = j + 1 := ⟨n - 1, by omega⟩
          rw [List.take_succ_cons, List.cons_append, List.cons_append]
          exact opens_brk t _ ho
    · rw [spread_blank hb]
      exact blank_brk _ hb
/-- blanks and one comment are passed -/
theorem lex_pass (B C : List UInt8) (hB : ∀ c ∈ B, blank c = true) (hC : cmt C 0 = some C.length) (hC2 : ∃ t, C = 40 :: 42 :: t) (Z : List UInt8) (p k : Nat) : lexF (B ++ C ++ Z) p k = lexF Z (p + (B ++ C).length) k := by
  induction B generalizing p with
  | nil =>
    obtain ⟨t, rfl⟩ := hC2
    have h1 := cmt_more _ _ _ Z hC
    rw [List.nil_append]
    rw [List.cons_append, List.cons_append] at h1 ⊢
    rw [lexF_cmt p k (by decide) (by simp [opens]) h1]
    congr 1
    have : (40 :: 42 :: (t ++ Z)) = (40 :: 42 :: t) ++ Z := rfl
    rw [this, List.drop_left]
  | cons b B ih =>
    rw [List.cons_append, List.cons_append, lexF_blank p k (hB b (List.mem_cons_self ..)), ih (fun c hc => hB c (List.mem_cons_of_mem _ hc))]
    congr 1
    simp
    omega
theorem spread_lex (B C tail : List UInt8) (hB : ∀ c ∈ B, blank c = true) (hC : cmt C 0 = some C.length) (hC2 : ∃ t, C = 40 :: 42 :: t) (ht : brk tail) (htl : ∀ p k, lexF tail p k = .ok [])
    (l : List UInt8) (p k p' : Nat) (r : List Tok) (h : lexF l p k = .ok r) : ∃ r', lexF (spreadF (B ++ C) l ++ tail) p' k = .ok r' ∧ r'.map strip = r.map strip := by
  have hI : brk (B ++ C) := by
    match B, hB with
    | [], _ => obtain ⟨t, rfl⟩ := hC2; exact .inr ⟨40, _, rfl, by simp⟩
    | b :: B, hB => exact blank_brk _ (hB b (List.mem_cons_self ..))
  have hne : B ++ C ≠ [] := by obtain ⟨t, rfl⟩ := hC2; simp
  induction hn : l.length using Nat.strongRecOn generalizing l p k p' r with
  | _ N ih =>
    match l, hn with
    | [], hn =>
      rw [lexF_nil] at h
      simp at h
      subst h
      rw [spreadF]
      exact ⟨[], htl _ _, rfl⟩
    | c :: u, hn =>
      cases hb : blank c
      · cases ho : opens (c :: u)
        · cases htk : tokF (c :: u) with
          | error e => rw [lexF_err p k hb ho htk] at h; cases h
          | ok v =>
            obtain ⟨kd, w, n, m⟩ := v
            have hm := tokF_len htk
            rw [lexF_tok p k hb ho htk] at h
            split at h
            · cases h
            · rename_i hk
              split at h
              · cases h
              · rename_i r1 hr1
                simp at h
                subst h
                have hbr := spread_brk (B ++ C) tail hI hne ht _ _ _ _ hr1
                obtain ⟨r2, h2, h3⟩ := ih ((c :: u).drop m).length (by rw [List.length_drop]; omega) _ _ _ (p' + (B ++ C).length + m) _ hr1 rfl
                rw [spread_tok hb ho htk, List.append_assoc (B ++ C) _ tail, lex_pass B C hB hC hC2, List.append_assoc]
                have htk2 := tok_more htk (z := spreadF (B ++ C) ((c :: u).drop m) ++ tail) (.inr hbr)
                generalize spreadF (B ++ C) ((c :: u).drop m) ++ tail = Z at *
                obtain ⟨j, rfl⟩ : ∃ j, m = j + 1 := ⟨m - 1, by omega⟩
                have hlen : ((c :: u).take (j + 1)).length = j + 1 := by rw [List.length_take]; omega
                have ho2 : opens ((c :: u).take (j + 1) ++ Z) = false := by
                  match j, u, ho with
                  | 0, u, ho =>
                    simp only [List.take_succ_cons, List.take_zero, List.cons_append, List.nil_append]
                    rcases hbr with rfl | ⟨b, v, rfl, hb2⟩
                    · have : ([c] == ([40, 42] : List UInt8)) = false := by simp
                      simp [opens, this]
                    · have : b ≠ 42 := by rcases hb2 with rfl | rfl | rfl | rfl | rfl <;> decide
                      simp [opens, this]
                  | j + 1, [], ho => simp at hlen
                  | j + 1, a :: u, ho => simpa [opens] using ho
                have hd : ((c :: u).take (j + 1) ++ Z).drop (j + 1) = Z := by
                  have h5 : ((c :: u).take (j + 1) ++ Z).drop ((c :: u).take (j + 1)).length = Z := List.drop_left
                  rw [hlen] at h5; exact h5
                rw [List.take_succ_cons, List.cons_append] at htk2 ho2 hd ⊢
                rw [lexF_tok _ k hb ho2 htk2, if_neg hk, hd, h2]
                exact ⟨_, rfl, by simp [strip] at h3 ⊢; exact h3⟩
        · cases hc : cmt (c :: u) 0 with
          | none => rw [lexF_cmt_none p k hb ho hc] at h; cases h
          | some n =>
            have hm := cmt_len _ _ _ hc
            rw [lexF_cmt p k hb ho hc] at h
            obtain ⟨r2, h2, h3⟩ := ih ((c :: u).drop n).length (by rw [List.length_drop]; omega) _ _ _ (p' + n) _ h rfl
            rw [spread_cmt hb ho hc, List.append_assoc]
            generalize spreadF (B ++ C) ((c :: u).drop n) ++ tail = Z at *
            have hc2 := cmt_more _ _ _ Z (cmt_take _ _ _ hc)
            obtain ⟨j, rfl⟩ : ∃ j, n = j + 2 := ⟨n - 2, by omega⟩
            have hlen : ((c :: u).take (j + 2)).length = j + 2 := by rw [List.length_take]; omega
            have hd : ((c :: u).take (j + 2) ++ Z).drop (j + 2) = Z := by
              have h5 : ((c :: u).take (j + 2) ++ Z).drop ((c :: u).take (j + 2)).length = Z := List.drop_left
              rw [hlen] at h5; exact h5
            have ho2 : opens ((c :: u).take (j + 2) ++ Z) = true := by
              match u, ho with
              | [], ho => simp [opens] at ho
              | a :: u, ho => simpa [opens] using ho
            rw [List.take_succ_cons, List.cons_append] at hc2 ho2 hd ⊢
            rw [lexF_cmt p' k hb ho2 hc2, hd]
            exact ⟨r2, h2, h3⟩
      · rw [lexF_blank p k hb] at h
        obtain ⟨r2, h2, h3⟩ := ih u.length (by simp at hn; omega) _ _ _ (p' + 1) _ h rfl
        rw [spread_blank hb, List.cons_append, lexF_blank p' k hb]
        exact ⟨r2, h2, h3⟩
/-- the pieces between places, with I ahead of each place -/
def build (I s : List UInt8) : Nat → List Nat → List UInt8
  | last, [] => s.drop last
  | last, a :: as => (s.drop last).take (a - last) ++ (I ++ build I s a as)
theorem build_spread (I s : List UInt8) (l : List UInt8) (p k last : Nat) (r : List Tok) (hl : s.drop p = l) (hle : last ≤ p) (h : lexF l p k = .ok r) :
    build I s last (r.map fun t => t.2.2.2.toNat) = (s.drop last).take (p - last) ++ spreadF I l := by
  have step : ∀ n, n ≤ l.length → (s.drop last).take (p + n - last) = (s.drop last).take (p - last) ++ l.take n := by
    intro n _
    rw [show p + n - last = (p - last) + n from by omega, List.take_add, List.drop_drop, show last + (p - last) = p from by omega, hl]
  induction hn : l.length using Nat.strongRecOn generalizing l p k last r with
  | _ N ih =>
    match l, hn with
    | [], hn =>
      rw [lexF_nil] at h
      simp at h
      subst h
      rw [spreadF]
      simp only [List.map_nil, build, List.append_nil]
      have : (s.drop last).length ≤ p - last := by
        have := congrArg List.length hl
        simp at this ⊢
        omega
      rw [List.take_of_length_le this]
    | c :: u, hn =>
      have hdr : ∀ n, s.drop (p + n) = (c :: u).drop n := fun n => by rw [← hl, List.drop_drop]
      have step' : ∀ (l' : List UInt8) (n last : Nat), last ≤ p + n → s.drop (p + n) = l' → ∀ i, i ≤ l'.length → (s.drop last).take (p + n + i - last) = (s.drop last).take (p + n - last) ++ l'.take i := by
        intro l' n last h1 h2 i _
        rw [show p + n + i - last = (p + n - last) + i from by omega, List.take_add, List.drop_drop, show last + (p + n - last) = p + n from by omega, h2]
      cases hb : blank c
      · cases ho : opens (c :: u)
        · cases htk : tokF (c :: u) with
          | error e => rw [lexF_err p k hb ho htk] at h; cases h
          | ok v =>
            obtain ⟨kd, w, n, m⟩ := v
            have hm := tokF_len htk
            rw [lexF_tok p k hb ho htk] at h
            split at h
            · cases h
            · split at h
              · cases h
              · rename_i r1 hr1
                simp at h
                subst h
                have := ih ((c :: u).drop m).length (by rw [List.length_drop]; omega) _ (p + m) (k + 1) p r1 (hdr m) (by omega) hr1 (step' _ m p (by omega) (hdr m)) rfl
                rw [spread_tok hb ho htk]
                simp only [List.map_cons, build, Int.toNat_natCast]
                rw [this, hl, show p + m - p = m from by omega]
        · cases hc : cmt (c :: u) 0 with
          | none => rw [lexF_cmt_none p k hb ho hc] at h; cases h
          | some n =>
            have hm := cmt_len _ _ _ hc
            rw [lexF_cmt p k hb ho hc] at h
            have := ih ((c :: u).drop n).length (by rw [List.length_drop]; omega) _ (p + n) k last r (hdr n) (by omega) h (step' _ n last (by omega) (hdr n)) rfl
            rw [this, spread_cmt hb ho hc, step n hm.2, List.append_assoc]
      · rw [lexF_blank p k hb] at h
        have h1 : s.drop (p + 1) = u := by rw [hdr 1]; rfl
        have := ih u.length (by simp at hn; omega) _ (p + 1) k last r h1 (by omega) h (step' _ 1 last (by omega) h1) rfl
        rw [this, spread_blank hb, step 1 (by simp)]
        simp
end Tk
end Go.Proofs.YtcoakhahjdnlfaaDoor
