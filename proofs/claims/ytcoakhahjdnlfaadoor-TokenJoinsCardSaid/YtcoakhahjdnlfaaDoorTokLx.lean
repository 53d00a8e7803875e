/- What Lex returns, by plain definition; one round of its loop. No program in sight but the slice's cells. -/
import Derived.Test.YtcoakhahjdnlfaaDoorTokR
import Derived.Test.YtcoakhahjdnlfaaDoorTokJ
import Derived.Test.YtcoakhahjdnlfaaDoorTokE
import Derived.Test.YtcoakhahjdnlfaaDoorAppendW
namespace Go.Proofs.YtcoakhahjdnlfaaDoor
set_option linter.all false
open Go.RowKit
namespace Tk
/-- the cells of tokens -/
def tokCells (ts : List Tok) : List Value := ts.flatMap fun t => [.int .i64 t.1, .string ⟨t.2.1.toArray⟩, .int .i64 t.2.2.1, .int .i64 t.2.2.2]
theorem tokCells_len (ts : List Tok) : (tokCells ts).length = ts.length * 4 := by
  induction ts with
  | nil => rfl
  | cons p t ih => simp [tokCells] at ih ⊢; omega
theorem tokCells_snoc (ts : List Tok) (t : Tok) : tokCells (ts ++ [t]) = tokCells ts ++ [.int .i64 t.1, .string ⟨t.2.1.toArray⟩, .int .i64 t.2.2.1, .int .i64 t.2.2.2] := by simp [tokCells]
theorem tokCells_at (ts : List Tok) (k : Nat) (h : k < ts.length) : (tokCells ts)[k * 4]? = some (.int .i64 ts[k].1) ∧ (tokCells ts)[k * 4 + 1]? = some (.string ⟨ts[k].2.1.toArray⟩) ∧ (tokCells ts)[k * 4 + 2]? = some (.int .i64 ts[k].2.2.1) ∧ (tokCells ts)[k * 4 + 3]? = some (.int .i64 ts[k].2.2.2) := by
  induction ts generalizing k with
  | nil => simp at h
  | cons p t ih =>
    cases k with
    | zero => simp [tokCells]
    | succ k =>
      have := ih k (by simpa using h)
      simp only [tokCells, List.flatMap_cons, List.getElem_cons_succ] at this ⊢
      rw [show (k + 1) * 4 = k * 4 + 4 from by omega]
      simpa using this
/-- what has been found, and what comes -/
def pre (ts : List Tok) (r : Except (Nat × Int) (List Tok)) : Except (Nat × Int) (List Tok) := match r with | .ok l => .ok (ts ++ l) | .error e => .error e
/-- all that Lex tells -/
def lexR (s : ByteArray) : Except (Nat × Int) (List Tok) := if 16384 < s.size then .error (0, 2) else lexF s.data.toList 0 0
/-- what is returned -/
def LexRet (w0 w' : World) (R : Except (Nat × Int) (List Tok)) (e : Ending) : Prop :=
  match R with
  | .ok ts => ∃ v, e = .returned (.tuple #[v, .int .i64 0, .int .i64 0]) ∧ Reads w' v ts.length 4 (tokCells ts) ∧ ts.length ≤ 6000 ∧ w'.ownsRow w0.heap.size 34 4 v ts.length (tokCells ts)
  | .error (p, c) => e = .returned (.tuple #[.slice none 0 0, .int .i64 p, .int .i64 c])
theorem tokF_err {l : List UInt8} {c : Int} (h : tokF l = .error c) : c = 2 ∨ c = 90 ∨ c = 91 := by
  unfold tokF at h
  split at h
  · injection h with h; omega
  · split at h
    · unfold wordT at h
      simp only at h
      split at h
      · cases h
      · split at h
        · injection h with h; omega
        · cases h
    · split at h
      · unfold numT at h
        simp only at h
        split at h
        · split at h
          · cases h
          · injection h with h; omega
        · split at h
          · split at h
            · cases h
            · injection h with h; omega
          · split at h
            · injection h with h; omega
            · split at h
              · cases h
              · injection h with h; omega
      · split at h
        · unfold textT at h
          simp only at h
          split at h
          · split at h
            · injection h with h; omega
            · cases h
          · injection h with h; omega
        · unfold signT at h
          split at h
          · cases h
          · split at h
            · split at h
              · cases h
              · injection h with h; omega
            · injection h with h; omega
theorem pre_tok (ts : List Tok) (t : Tok) (r : Except (Nat × Int) (List Tok)) : pre ts (match r with | .error e => .error e | .ok r => .ok (t :: r)) = pre (ts ++ [t]) r := by
  cases r <;> simp [pre]
end Tk
theorem info_tok : (Tryd.prog.info? 34).map (fun i => (i.zero, i.size, i.bytes)) = some (some (.agg #[.int .i64 0, .string ⟨#[]⟩, .int .i64 0, .int .i64 0]), 4, 40) := by kernel_rfl
theorem owns_form {w : World} {base : Nat} {e : TypeId} {size : Nat} {v : Value} {n : Nat} {xs : List Value} (h : w.ownsRow base e size v n xs) : ∃ a cap, v = .slice a n cap ∧ n ≤ cap ∧ cap ≤ maxLen := by
  rcases h.2 with ⟨rfl, rfl⟩ | ⟨g, cap, cur, rfl, _, hg, hn, hm, _⟩
  · exact ⟨none, 0, rfl, by omega, by decide⟩
  · exact ⟨_, cap, rfl, hn, hm⟩
theorem owns_kept {w w' : World} {base : Nat} {e : TypeId} {size : Nat} {v : Value} {n : Nat} {xs : List Value} (h : w.ownsRow base e size v n xs) (hb : Below w.heap.size w w') : w'.ownsRow base e size v n xs :=
  h.kept (row := none) ⟨hb.os, hb.tape, hb.output, hb.size, fun k hk _ => hb.block k hk⟩ (by cases hv : v.ownBlock <;> simp)
theorem reads_token (w : World) (p : Nat) (a b c d : Value) (e : TypeId) (hp : p = w.heap.size) : Reads (w.alloc (.cells #[a, b, c, d] e)) (.slice (some ⟨p, 0, none⟩) 1 1) 1 4 [a, b, c, d] := by
  subst hp; exact reads_lit w #[a, b, c, d] e 1 4 (by decide) rfl
end Go.Proofs.YtcoakhahjdnlfaaDoor
