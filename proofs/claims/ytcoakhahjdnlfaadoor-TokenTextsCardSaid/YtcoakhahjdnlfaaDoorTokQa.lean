/- The walk of token.begun: the lexer's record is made. Conditions: the library's variables are as they were laid. -/
import Derived.Test.YtcoakhahjdnlfaaDoorTokO
import Derived.Test.YtcoakhahjdnlfaaDoorTokM
import Derived.Test.YtcoakhahjdnlfaaDoorLt2W
import Derived.Test.YtcoakhahjdnlfaaDoorAppendW
import Derived.Maps.Own
namespace Go.Proofs.YtcoakhahjdnlfaaDoor
set_option linter.all false
open Go.RowKit
/-- the keywords in a row, with blanks between -/
def keyText : ByteArray := ⟨#[65, 82, 82, 65, 89, 32, 66, 69, 71, 73, 78, 32, 66, 89, 32, 67, 65, 83, 69, 32, 67, 79, 78, 83, 84, 32, 68, 73, 86, 32, 68, 79, 32, 69, 76, 83, 69, 32, 69, 76, 83, 73, 70, 32, 69, 78, 68, 32, 70, 65, 76, 83, 69, 32, 70, 79, 82, 32, 73, 70, 32, 73, 77, 80, 79, 82, 84, 32, 73, 78, 32, 73, 83, 32, 77, 79, 68, 32, 77, 79, 68, 85, 76, 69, 32, 78, 73, 76, 32, 79, 70, 32, 79, 82, 32, 80, 79, 73, 78, 84, 69, 82, 32, 80, 82, 79, 67, 69, 68, 85, 82, 69, 32, 82, 69, 67, 79, 82, 68, 32, 82, 69, 80, 69, 65, 84, 32, 82, 69, 84, 85, 82, 78, 32, 84, 72, 69, 78, 32, 84, 79, 32, 84, 82, 85, 69, 32, 84, 89, 80, 69, 32, 85, 78, 84, 73, 76, 32, 86, 65, 82, 32, 87, 72, 73, 76, 69]⟩
theorem key_fields : Lib.fields keyText.data.toList = Tk.keys := by decide +kernel
theorem key_ascii : ∀ (j : Nat) b, keyText.data.toList[j]? = some b → b.toNat < 128 := by
  intro j b hb
  have : keyText.data.toList.all (fun b => decide (b.toNat < 128)) = true := by decide +kernel
  have := List.all_eq_true.1 this b (List.mem_of_getElem? hb)
  simpa using this
theorem reads_litp (w : World) (p : Nat) (cs : Array Value) (e : TypeId) (n size : Nat) (xs : List Value) (hm : n ≤ maxLen) (hs : cs.size = n * size) (hx : cs.toList = xs) (hp : p = w.heap.size) : Reads (w.alloc (.cells cs e)) (.slice (some ⟨p, 0, none⟩) n n) n size xs := by
  subst hp; subst hx; exact reads_lit w cs e n size hm hs
theorem key_fresh (k : Nat) (h : k < Tk.keys.length) : Tk.keys[k] ∉ Tk.keys.take k := by
  intro hm
  obtain ⟨i, hi, he⟩ := List.mem_take_iff_getElem.1 hm
  have := (List.getElem_inj Tk.keys_nodup).1 he
  omega
theorem fields_keys (s : ByteArray) (hs : s = keyText) (W : World) (n : Nat) (hn : n = W.heap.size) (hg : Gs W) :
    Calls Tryd.prog 39 #[.string s] W fun e w' => e = .returned (.slice (some ⟨n, 0, none⟩) 33 33) ∧ w' = W.alloc (.cells (strCells Tk.keys) 9) := by
  subst hs hn
  refine (Tryd.strings_Fields keyText W (of_decide_eq_true (by kernel_rfl)) key_ascii hg.tab).mono fun e w' ⟨h1, h2⟩ => ?_
  rw [key_fields] at h1 h2
  exact ⟨h1, h2⟩
theorem Tk.Tab.alloc {w : World} {b : Nat} {p : UInt8 → Bool} (h : Tk.Tab w b p) (o : Obj) : Tk.Tab (w.alloc o) b p := h.keep ((Below.refl w.heap.size w).alloc (Nat.le_refl _) o) h.1
theorem Tk.tab_new (X : World) (l : List UInt8) (p : UInt8 → Bool) (n : Nat) (t : TypeId) (hp : ∀ c, l.contains c = p c) (hn : n = X.heap.size) : Tk.Tab (X.alloc (.cells (Lib.setCells l) t)) n p := by
  subst hn
  refine ⟨by simp, fun c => ?_⟩
  rw [← hp c, ← Lib.setCells_at]
  simp [go_sem]
theorem KeysIn.alloc {w : World} {b : Nat} {ws : List (List UInt8)} (h : KeysIn w b ws) (o : Obj) : KeysIn (w.alloc o) b ws := h.below ((Below.refl w.heap.size w).alloc (Nat.le_refl _) o) h.lt
theorem keys_new (X : World) (n : Nat) (hn : n = X.heap.size) : KeysIn (X.alloc (.map #[] 0)) n [] := by
  subst hn
  exact ⟨#[], 0, (MapKept.heap_alloc X _).1, rfl⟩
theorem keys_take (k : Nat) (h : k < Tk.keys.length) : Tk.keys.take k ++ [Tk.keys[k]] = Tk.keys.take (k + 1) := by
  rw [List.take_succ, List.getElem?_eq_getElem h]; rfl
set_option maxRecDepth 100000 in
set_option maxHeartbeats 4000000 in
theorem begun_any (w : World) (hg : Gs w) :
    Calls Tryd.prog 20 #[] w fun e w' => (∃ x b1 b2 b3 b4 m, e = .returned (.pointer (some ⟨x, 0, none⟩)) ∧ Tk.Lx w' x b1 b2 b3 b4 m) ∧ ∃ g, w' = more w g := by
  have hmm := @run_makeMap Tryd.prog
  go_enter Tryd.func20, Tryd.ntmps20
  go_wp2_with (go_at_call 38; first
    | ((with_reducible refine (of_any _ [(97, 122), (65, 90)] _ ?_ (by decide) (by decide)).mono ?_); (focus (exact reads_litp _ _ _ _ 2 1 _ (by decide) rfl rfl (by simp))); rintro e w' ⟨rfl, rfl⟩)
    | ((with_reducible refine (of_any _ [(97, 122), (65, 90), (48, 57)] _ ?_ (by decide) (by decide)).mono ?_); (focus (exact reads_litp _ _ _ _ 3 1 _ (by decide) rfl rfl (by simp))); rintro e w' ⟨rfl, rfl⟩)
    | ((with_reducible refine (of_any _ [(48, 57)] _ ?_ (by decide) (by decide)).mono ?_); (focus (exact reads_litp _ _ _ _ 1 1 _ (by decide) rfl rfl (by simp))); rintro e w' ⟨rfl, rfl⟩)
    | ((with_reducible refine (of_any _ [(48, 57), (65, 70)] _ ?_ (by decide) (by decide)).mono ?_); (focus (exact reads_litp _ _ _ _ 2 1 _ (by decide) rfl rfl (by simp))); rintro e w' ⟨rfl, rfl⟩))
  refine (fields_keys _ (by kernel_rfl) _ (w.heap.size + 1 + 1 + 1 + 1 + 1 + 1 + 1 + 1 + 1 + 1) (by simp) ?_).mono ?_
  · exact hg.below (by repeat' (first | (with_reducible exact Below.refl _ _) | (with_reducible assumption) | (with_reducible refine below_more ?_ ?_ _) | (with_reducible refine below_drewN ?_ _) | (with_reducible refine Below.drew ?_) | (with_reducible refine Below.alloc ?_ ?_ _) | (with_reducible refine Below.setCell ?_ ?_ _) | go_size | (simp [more_size]; done) | (simp [more_size]; omega)))
  rintro e w' ⟨rfl, rfl⟩
  generalize hW : World.alloc _ (.cells (strCells Tk.keys) 9) = W
  have hB : Below w.heap.size w W := by rw [← hW]; exact (by repeat' (first | (with_reducible exact Below.refl _ _) | (with_reducible assumption) | (with_reducible refine below_more ?_ ?_ _) | (with_reducible refine below_drewN ?_ _) | (with_reducible refine Below.drew ?_) | (with_reducible refine Below.alloc ?_ ?_ _) | (with_reducible refine Below.setCell ?_ ?_ _) | go_size | (simp [more_size]; done) | (simp [more_size]; omega)))
  have T1 : Tk.Tab W (w.heap.size + 1) Tk.letter := by
    rw [← hW]; repeat' (first | (exact Tk.tab_new _ _ _ _ _ Tk.tab_letter (by simp)) | refine Tk.Tab.alloc ?_ _)
  have T2 : Tk.Tab W (w.heap.size + 1 + 1 + 1) Tk.inside := by
    rw [← hW]; repeat' (first | (exact Tk.tab_new _ _ _ _ _ Tk.tab_inside (by simp)) | refine Tk.Tab.alloc ?_ _)
  have T3 : Tk.Tab W (w.heap.size + 1 + 1 + 1 + 1 + 1) Tk.digit := by
    rw [← hW]; repeat' (first | (exact Tk.tab_new _ _ _ _ _ Tk.tab_digit (by simp)) | refine Tk.Tab.alloc ?_ _)
  have T4 : Tk.Tab W (w.heap.size + 1 + 1 + 1 + 1 + 1 + 1 + 1) Tk.hexa := by
    rw [← hW]; repeat' (first | (exact Tk.tab_new _ _ _ _ _ Tk.tab_hexa (by simp)) | refine Tk.Tab.alloc ?_ _)
  have K0 : KeysIn W (w.heap.size + 1 + 1 + 1 + 1 + 1 + 1 + 1 + 1) [] := by
    rw [← hW]; repeat' (first | (exact keys_new _ _ (by simp)) | refine KeysIn.alloc ?_ _)
  have x0 : W.cell? ⟨w.heap.size + 1 + 1 + 1 + 1 + 1 + 1 + 1 + 1 + 1, 0, none⟩ = some (.pointer (some ⟨w.heap.size + 1, 0, none⟩)) := by rw [← hW]; simp [go_sem]
  have x1 : W.cell? ⟨w.heap.size + 1 + 1 + 1 + 1 + 1 + 1 + 1 + 1 + 1, 1, none⟩ = some (.pointer (some ⟨w.heap.size + 1 + 1 + 1, 0, none⟩)) := by rw [← hW]; simp [go_sem]
  have x2 : W.cell? ⟨w.heap.size + 1 + 1 + 1 + 1 + 1 + 1 + 1 + 1 + 1, 2, none⟩ = some (.pointer (some ⟨w.heap.size + 1 + 1 + 1 + 1 + 1, 0, none⟩)) := by rw [← hW]; simp [go_sem]
  have x3 : W.cell? ⟨w.heap.size + 1 + 1 + 1 + 1 + 1 + 1 + 1 + 1 + 1, 3, none⟩ = some (.pointer (some ⟨w.heap.size + 1 + 1 + 1 + 1 + 1 + 1 + 1, 0, none⟩)) := by rw [← hW]; simp [go_sem]
  have x4 : W.cell? ⟨w.heap.size + 1 + 1 + 1 + 1 + 1 + 1 + 1 + 1 + 1, 4, none⟩ = some (.map (some (w.heap.size + 1 + 1 + 1 + 1 + 1 + 1 + 1 + 1))) := by rw [← hW]; simp [go_sem]
  have f0 : ∀ k (h : k < Tk.keys.length), W.cell? ⟨w.heap.size + 1 + 1 + 1 + 1 + 1 + 1 + 1 + 1 + 1 + 1, k, none⟩ = some (.string ⟨Tk.keys[k].toArray⟩) := by
    intro k h
    rw [← strCells_at Tk.keys k h, ← hW]; simp [go_sem]
  have hsz : W.heap.size = w.heap.size + 1 + 1 + 1 + 1 + 1 + 1 + 1 + 1 + 1 + 1 + 1 := by rw [← hW]; simp
  clear hW
  generalize hmb : w.heap.size + 1 + 1 + 1 + 1 + 1 + 1 + 1 + 1 = mb at *
  have xs : mb + 1 < W.heap.size := by omega
  have h1 : w.heap.size + 1 < mb := by omega
  have h2 : w.heap.size + 1 + 1 + 1 < mb := by omega
  have h3 : w.heap.size + 1 + 1 + 1 + 1 + 1 < mb := by omega
  have h4 : w.heap.size + 1 + 1 + 1 + 1 + 1 + 1 + 1 < mb := by omega
  have h5 : w.heap.size ≤ mb := by omega
  clear hsz hmb
  generalize w.heap.size + 1 + 1 + 1 + 1 + 1 + 1 + 1 = p4 at *
  generalize w.heap.size + 1 + 1 + 1 + 1 + 1 = p3 at *
  generalize w.heap.size + 1 + 1 + 1 = p2 at *
  generalize w.heap.size + 1 = p1 at *
  have hkl := Tk.keys_len
  replace T1 := Lib.hid T1
  replace T2 := Lib.hid T2
  replace T3 := Lib.hid T3
  replace T4 := Lib.hid T4
  replace x0 := Lib.hid x0
  replace x1 := Lib.hid x1
  replace x2 := Lib.hid x2
  replace x3 := Lib.hid x3
  replace f0 := Lib.hid f0
  replace hB := Lib.hid hB
  go_wp2
  go_loopw [17] (fun i wr => ∃ k : Nat, k ≤ 33 ∧ i = .int .i64 k ∧ KeysIn wr mb (Tk.keys.take k) ∧ wr.heap.size = W.heap.size ∧ (∀ j, j ≠ mb → wr.heap[j]? = W.heap[j]?) ∧ Below mb W wr) (fun i _ => 33 - (intOf i).toNat)
  case atStart => exact ⟨0, by omega, rfl, by simpa using K0, rfl, fun _ _ => rfl, Below.refl _ _⟩
  case round =>
    obtain ⟨k, hk, rfl, hK, hS, hO, hBl⟩ := hrel
    have c4 : wr.cell? ⟨mb + 1, 4, none⟩ = some (.map (some mb)) := (World.cell?_of_block (hO (mb + 1) (by omega))).trans x4
    replace hK := Lib.hid hK
    replace hO := Lib.hid hO
    replace hBl := Lib.hid hBl
    by_cases hlt : k < 33
    · have ck : wr.cell? ⟨mb + 1 + 1, k, none⟩ = some (.string ⟨Tk.keys[k].toArray⟩) := (World.cell?_of_block (hO.out (mb + 1 + 1) (by omega))).trans (f0.out k (by omega))
      have hf := Lib.hid (key_fresh k (by omega))
      have ht := Lib.hid (keys_take k (by omega))
      generalize Tk.keys[k] = kw at *
      go_wp2_with (at_mapUpdate; refine wpList_keys_put rfl _ _ _ 72 rfl hK.out rfl rfl rfl Tryd.underlying72 Tryd.underlying9 rfl hf.out ?_; intro W' q1 q2 q3 q4)
      refine ⟨⟨k + 1, by omega, by simp, by rw [← ht.out]; exact q1, q2.trans hS, fun j hj => (q3 j hj).trans (hO.out j hj), hBl.out.trans q4⟩, by simp [intOf]; omega⟩
    · have hke : k = 33 := by omega
      subst hke
      go_wp2
      go_ret
      have xk : ∀ o, wr.cell? ⟨mb + 1, o, none⟩ = W.cell? ⟨mb + 1, o, none⟩ := fun o => World.cell?_of_block (hO.out (mb + 1) (by omega))
      have hK' := hK.out
      rw [List.take_of_length_le (by omega)] at hK'
      exact ⟨⟨mb + 1, p1, p2, p3, p4, mb, rfl, ⟨by rw [hS]; exact xs, (xk 0).trans x0.out, (xk 1).trans x1.out, (xk 2).trans x2.out, (xk 3).trans x3.out, c4, T1.out.keep hBl.out h1, T2.out.keep hBl.out h2, T3.out.keep hBl.out h3, T4.out.keep hBl.out h4, hK'⟩⟩, more_of_below (hB.out.trans (hBl.out.mono h5))⟩
end Go.Proofs.YtcoakhahjdnlfaaDoor
