/- The walk of the law TokenJoins, where both texts have tokens; and all of it. Conditions: the library's variables are as they were laid; the texts are no longer than a text may be. -/
import Derived.Test.YtcoakhahjdnlfaaDoorLwTc
namespace Go.Proofs.YtcoakhahjdnlfaaDoor
set_option linter.all false
open Go.RowKit
namespace Tk
theorem sh_cell (d : Nat) (t : Tok) : (sh d t).1 = t.1 ∧ (sh d t).2.1 = t.2.1 ∧ (sh d t).2.2.1 = t.2.2.1 ∧ (sh d t).2.2.2 = t.2.2.2 + (d : Int) := ⟨rfl, rfl, rfl, rfl⟩
theorem tokCells_next (d : Nat) (r q : List Tok) (k : Nat) (h : k < q.length) :
    tokCells (r ++ (q.take (k + 1)).map (sh d)) = tokCells (r ++ (q.take k).map (sh d)) ++ [.int .i64 q[k].1, .string ⟨q[k].2.1.toArray⟩, .int .i64 q[k].2.2.1, .int .i64 (q[k].2.2.2 + (d : Int))] := by
  rw [List.take_succ_eq_append_getElem h, List.map_append, ← List.append_assoc]
  rw [List.map_singleton, tokCells_snoc]
  rfl
end Tk
/-- two slices of tokens: the first is owned from base on, the second lies apart -/
theorem own_apart {w : World} {base B : Nat} {e : TypeId} {size : Nat} {v : Value} {n : Nat} {xs : List Value} (h : w.ownsRow base e size v n xs) (hB : w.heap.size ≤ B) : ∀ g, v.ownBlock = some g → base ≤ g ∧ g < B :=
  fun g hg => ⟨(h.lt g hg).1, Nat.lt_of_lt_of_le (h.lt g hg).2 hB⟩
/-- one append to the first row: the other two rows lie apart, and read on -/
theorem join_step {w4 wr W' w5 : World} {v v3 v' : Value} {b2 B n : Nat} {xs : List Value} (hgrow : W'.grownBy w5 v.ownBlock) (hwhere : ∀ g, v'.ownBlock = some g → v.ownBlock = some g ∨ W'.heap.size ≤ g)
    (hb : Below wr.heap.size wr W') (hap : ∀ g, v.ownBlock = some g → g < B ∨ w4.heap.size ≤ g) (hB2 : wr.heap[b2]? = w4.heap[b2]?) (n2 : B ≤ b2 ∧ b2 < w4.heap.size)
    (a3 : ∀ g, v3.ownBlock = some g → B ≤ g ∧ g < w4.heap.size) (hr3 : Reads wr v3 n 4 xs) (hzw : w4.heap.size ≤ wr.heap.size) :
    (∀ g, v'.ownBlock = some g → g < B ∨ w4.heap.size ≤ g) ∧ w5.heap[b2]? = w4.heap[b2]? ∧ Reads w5 v3 n 4 xs ∧ w4.heap.size ≤ w5.heap.size := by
  have s1 := hb.size
  have s2 := hgrow.size
  refine ⟨fun g hg => ?_, ?_, ?_, by omega⟩
  · rcases hwhere g hg with h | h
    · exact hap g h
    · exact .inr (by omega)
  · rw [hgrow.block b2 (by omega) (fun e => by have := hap b2 e.symm; omega), hb.block b2 (by omega), hB2]
  · exact (hr3.below hb).grown hgrow (fun b h e => by have h1 := a3 b h; have h2 := hap b e; omega)
set_option maxRecDepth 100000 in
set_option maxHeartbeats 6400000 in
theorem Joins_ok (s t : ByteArray) (w : World) (hg : Gs w) (hst : s.size + t.size ≤ 4000) {r : List Tk.Tok} (hR : Tk.lexR s = .ok r) {q : List Tk.Tok} (hT : Tk.lexR t = .ok q) :
    Calls Tryd.prog 6 #[.string s, .string t] w fun e w' => e = .returned (.bool true) ∧ Below w.heap.size w w' := by
  have HG := Lib.hid hg
  clear hg
  have hb1 : (s.size : Int) + (t.size : Int) ≤ 4000 := by omega
  have hs3 := Tk.join_size s t
  have hR3 : Tk.lexR (s ++ (⟨#[10]⟩ : ByteArray) ++ t) = .ok (r ++ q.map (Tk.sh (s.size + 1))) := by rw [Tk.joins hst hR, hT]; rfl
  have hqa : ∀ x ∈ q, 0 ≤ x.2.2.2 ∧ x.2.2.2 < 5000 := by
    intro x hx
    rw [Tk.lexR_small (by omega)] at hT
    have := (Tk.lex_ats _ _ _ _ hT).2.1 x hx
    have hl : t.data.toList.length = t.size := by simp
    omega
  have HQA := Lib.hid hqa
  have HA := Lib.hid (fun W hg => lex_ok hR (by omega) W hg)
  have HB := Lib.hid (fun W hg => lex_ok hT (by omega) W hg)
  have HC := Lib.hid (fun W hg => lex_ok hR3 (by omega) W hg)
  obtain ⟨i0, hi, hz0, hz1, hz2⟩ := info_parts info_tok
  clear hR hT hR3 hqa
  go_enter Tryd.func6, Tryd.ntmps6
  go_upto_region 8 with (go_at_call 11; first
        | ((with_reducible refine (HA.out _ ?_).mono ?_); (focus (exact HG.out)); rintro e w2 ⟨⟨v1, rfl, HR1⟩, hm1⟩; have hb2 : Below w.heap.size w w2 := (by obtain ⟨g, rfl⟩ := hm1; exact (by repeat' (first | (with_reducible exact Below.refl _ _) | (with_reducible assumption) | (with_reducible refine below_more ?_ ?_ _) | (with_reducible refine below_drewN ?_ _) | (with_reducible refine Below.drew ?_) | (with_reducible refine Below.alloc ?_ ?_ _) | (with_reducible refine Below.setCell ?_ ?_ _) | go_size | (simp [more_size]; done) | (simp [more_size]; omega)))); replace hm1 := Lib.hid hm1; replace hb2 := Lib.hid hb2)
        | ((with_reducible refine (HB.out _ ?_).mono ?_); (focus (exact HG.out.below hb2.out)); rintro e w3 ⟨⟨v2, rfl, HR2⟩, hm2⟩; have hb3 : Below w2.heap.size w2 w3 := (by obtain ⟨g, rfl⟩ := hm2; exact (by repeat' (first | (with_reducible exact Below.refl _ _) | (with_reducible assumption) | (with_reducible refine below_more ?_ ?_ _) | (with_reducible refine below_drewN ?_ _) | (with_reducible refine Below.drew ?_) | (with_reducible refine Below.alloc ?_ ?_ _) | (with_reducible refine Below.setCell ?_ ?_ _) | go_size | (simp [more_size]; done) | (simp [more_size]; omega)))); replace hm2 := Lib.hid hm2; replace hb3 := Lib.hid hb3)
        | ((with_reducible refine (HC.out _ ?_).mono ?_); (focus (have q1 := hb2.out; have q2 := hb3.out; exact HG.out.below (q1.trans (q2.mono q1.size)))); rintro e w4 ⟨⟨v3, rfl, HR3⟩, hm3⟩; have hb4 : Below w3.heap.size w3 w4 := (by obtain ⟨g, rfl⟩ := hm3; exact (by repeat' (first | (with_reducible exact Below.refl _ _) | (with_reducible assumption) | (with_reducible refine below_more ?_ ?_ _) | (with_reducible refine below_drewN ?_ _) | (with_reducible refine Below.drew ?_) | (with_reducible refine Below.alloc ?_ ?_ _) | (with_reducible refine Below.setCell ?_ ?_ _) | go_size | (simp [more_size]; done) | (simp [more_size]; omega)))); replace hm3 := Lib.hid hm3; replace hb4 := Lib.hid hb4))
  have q1 := hb2.out
  have q2 := hb3.out
  have q3 := hb4.out
  have q13 : Below w.heap.size w w3 := q1.trans (q2.mono q1.size)
  have q14 : Below w.heap.size w w4 := q13.trans (q3.mono q13.size)
  have q24 : Below w2.heap.size w2 w4 := q2.trans (q3.mono q2.size)
  have o1 := owns_kept HR1.out.2.2 q24
  have r2 := HR2.out.1.below q3
  have r3 := HR3.out.1
  have s1 := q1.size
  have s2 := q2.size
  have s3 := q3.size
  have a1 : ∀ g, v1.ownBlock = some g → g < w2.heap.size ∨ w4.heap.size ≤ g := fun g hg => .inl ((HR1.out.2.2.lt g hg).2)
  have a3 : ∀ g, v3.ownBlock = some g → w2.heap.size ≤ g ∧ g < w4.heap.size := fun g hg => ⟨by have := (HR3.out.2.2.lt g hg).1; omega, (HR3.out.2.2.lt g hg).2⟩
  have a2 : ∀ g, v2.ownBlock = some g → w2.heap.size ≤ g ∧ g < w4.heap.size := fun g hg => ⟨(HR2.out.2.2.lt g hg).1, by have := (HR2.out.2.2.lt g hg).2; omega⟩
  have l1 : r.length ≤ 6000 := HR1.out.2.1
  have l2 : q.length ≤ 6000 := HR2.out.2.1
  have l3 : r.length + q.length ≤ 6000 := by have := HR3.out.2.1; simpa using this
  obtain ⟨va, vcap, rfl, -, -⟩ := owns_form HR1.out.2.2
  have hG4 := Lib.hid (HG.out.below q14)
  have H14 := Lib.hid q14
  clear hm1 hm2 hm3 hb2 hb3 hb4 q1 q2 q3 q13 q14 q24 HR1 HR2 HR3
  have FIN : ∀ (wr : World) (v : Value), wr.ownsRow w.heap.size 34 4 v (r.length + q.length) (Tk.tokCells (r ++ (q.take q.length).map (Tk.sh (s.size + 1)))) → Reads wr v (r ++ q.map (Tk.sh (s.size + 1))).length 4 (Tk.tokCells (r ++ q.map (Tk.sh (s.size + 1)))) := by
    intro wr v ho
    rw [List.take_length] at ho
    have := Reads.of_owns ho
    rwa [show r.length + q.length = (r ++ q.map (Tk.sh (s.size + 1))).length by simp] at this
  replace FIN := Lib.hid FIN
  rcases r2.2 with ⟨h0, a, cap, rfl, -⟩ | ⟨b2, off2, cap, rfl, hnc, hcm, hbl, hc⟩
  · have hq0 : q = [] := List.eq_nil_of_length_eq_zero h0
    subst hq0
    have F := FIN.out w4 _ (by simpa using o1)
    replace F := Lib.hid F
    replace r3 := Lib.hid r3
    clear o1 r2 a1 a2 a3 h0 FIN
    go_wp2
    go_loop [5, 14] (fun v i => v = .slice va r.length vcap ∧ i = .int .i64 0) (fun _ i => 0)
    case atStart => exact ⟨rfl, rfl⟩
    case round =>
      obtain ⟨rfl, rfl⟩ := hrel
      go_wp2_with (first
        | (go_at_call 13; go_loud ((with_reducible refine (same_at (ts := r ++ List.map (Tk.sh (s.size + 1)) []) _ _ ?_ ?_).mono ?_); (focus (exact r3.out)); (focus (exact F.out)); rintro e w5 ⟨rfl, g, rfl⟩))
        | (go_at_call 10; (with_reducible refine (wakes9_any _ ?_).mono ?_); (focus (exact hG4.out.below (by repeat' (first | (with_reducible exact Below.refl _ _) | (with_reducible assumption) | (with_reducible refine below_more ?_ ?_ _) | (with_reducible refine below_drewN ?_ _) | (with_reducible refine Below.drew ?_) | (with_reducible refine Below.alloc ?_ ?_ _) | (with_reducible refine Below.setCell ?_ ?_ _) | go_size | (simp [more_size]; done) | (simp [more_size]; omega))))); rintro e w6 ⟨rfl, g, rfl⟩))
      go_ret
      have q14 := H14.out
      exact ⟨rfl, q14.trans (Below.mono (by repeat' (first | (with_reducible exact Below.refl _ _) | (with_reducible assumption) | (with_reducible refine below_more ?_ ?_ _) | (with_reducible refine below_drewN ?_ _) | (with_reducible refine Below.drew ?_) | (with_reducible refine Below.alloc ?_ ?_ _) | (with_reducible refine Below.setCell ?_ ?_ _) | go_size | (simp [more_size]; done) | (simp [more_size]; omega))) q14.size)⟩
  · have hl1 : cap ≤ 9223372036854775807 := by unfold maxLen at hcm; omega
    have n2 := a2 b2 rfl
    have hcells : ∀ k (h : k < q.length), w4.cell? ⟨b2, off2 + k * 4, none⟩ = some (.int .i64 q[k].1) ∧ w4.cell? ⟨b2, off2 + k * 4 + 1, none⟩ = some (.string ⟨q[k].2.1.toArray⟩) ∧ w4.cell? ⟨b2, off2 + k * 4 + 2, none⟩ = some (.int .i64 q[k].2.2.1) ∧ w4.cell? ⟨b2, off2 + k * 4 + 3, none⟩ = some (.int .i64 q[k].2.2.2) := by
      intro k h
      have h1 := Tk.tokCells_at q k h
      refine ⟨hc _ _ h1.1, ?_, ?_, ?_⟩
      · have := hc _ _ h1.2.1; rwa [← Nat.add_assoc] at this
      · have := hc _ _ h1.2.2.1; rwa [← Nat.add_assoc] at this
      · have := hc _ _ h1.2.2.2; rwa [← Nat.add_assoc] at this
    have HCELL := Lib.hid hcells
    have A3 := Lib.hid a3
    have O1 := Lib.hid o1
    have A1 := Lib.hid a1
    have R3 := Lib.hid r3
    clear hcells hc r2 a2 a3 o1 a1 r3
    go_wp2
    go_loopw [5, 14] (fun v i wr => ∃ k : Nat, k ≤ q.length ∧ i = .int .i64 k ∧ wr.ownsRow w.heap.size 34 4 v (r.length + k) (Tk.tokCells (r ++ (q.take k).map (Tk.sh (s.size + 1)))) ∧ (∀ g, v.ownBlock = some g → g < w2.heap.size ∨ w4.heap.size ≤ g) ∧ wr.heap[b2]? = w4.heap[b2]? ∧ Reads wr v3 (r ++ q.map (Tk.sh (s.size + 1))).length 4 (Tk.tokCells (r ++ q.map (Tk.sh (s.size + 1)))) ∧ Below w.heap.size w wr ∧ w4.heap.size ≤ wr.heap.size) (fun _ i _ => q.length - (intOf i).toNat)
    case atStart => exact ⟨0, by omega, rfl, by simpa using O1.out, A1.out, rfl, R3.out, H14.out, Nat.le_refl _⟩
    case round =>
      obtain ⟨k, hk, rfl, hown, hap, hb2, hr3, hBw, hzw⟩ := hrel
      have HO := Lib.hid hown
      have HAP := Lib.hid hap
      have HB2 := Lib.hid hb2
      have HR3 := Lib.hid hr3
      have HBW := Lib.hid hBw
      obtain ⟨ra, rcap, rfl, -, -⟩ := owns_form hown
      have hsz := hBw.size
      clear hown hap hb2 hr3 hBw
      by_cases hlt : k < q.length
      · obtain ⟨c0, c1, c2, c3⟩ := HCELL.out k hlt
        have hcw : ∀ o, wr.cell? ⟨b2, o, none⟩ = w4.cell? ⟨b2, o, none⟩ := fun o => World.cell?_of_block HB2.out
        rw [← hcw] at c0 c1 c2 c3
        have hat := HQA.out q[k] (List.getElem_mem hlt)
        have HN := Lib.hid (Tk.tokCells_next (s.size + 1) r q k hlt)
        generalize q[k] = x at *
        obtain ⟨xk, xw, xn, xa⟩ := x
        simp only at c0 c1 c2 c3 hat HN
        obtain ⟨ha0, ha1⟩ := hat
        have hw : wrap64 (xa + ((s.size : Int) + 1)) = xa + ((s.size : Int) + 1) := by unfold wrap64; omega
        replace hw := Lib.hid hw
        clear hcw
        have hb2lt : b2 < wr.heap.size := by omega
        go_wp2_with (at_builtin; refine wpList_append_where rfl _ _ 23 rfl w.heap.size 34 i0 (.agg #[.int .i64 0, .string ⟨#[]⟩, .int .i64 0, .int .i64 0]) 4 40 Tryd.underlying23 hi hz0 hz1 hz2 rfl (by decide) _ (r.length + k) _ rfl (owns_kept HO.out ?_) _ 1 1 [.int .i64 xk, .string ⟨xw.toArray⟩, .int .i64 xn, .int .i64 (xa + ((s.size : Int) + 1))] rfl (reads_token _ _ _ _ _ _ 34 ?_) ?_ (by decide) ?_ ?_ ?_ ?_; (focus (exact (by repeat' (first | (with_reducible exact Below.refl _ _) | (with_reducible assumption) | (with_reducible refine below_more ?_ ?_ _) | (with_reducible refine below_drewN ?_ _) | (with_reducible refine Below.drew ?_) | (with_reducible refine Below.alloc ?_ ?_ _) | (with_reducible refine Below.setCell ?_ ?_ _) | go_size | (simp [more_size]; done) | (simp [more_size]; omega))))); (focus (simp [more_size]; done)); (focus (intro q hq; simp at hq; rcases hq with rfl | rfl | rfl | rfl <;> rfl)); (focus (unfold maxLen; omega)); (focus omega); (focus (first | (simp [more_size]; omega) | omega)); intro v' w5 hown' hgrow hwhere)
        have hBn : Below w.heap.size w w5 := by
          refine below_grown ?_ ?_ hgrow (owns_rows HO.out)
          · have hBw2 := HBW.out; exact (by repeat' (first | (with_reducible exact Below.refl _ _) | (with_reducible assumption) | (with_reducible refine below_more ?_ ?_ _) | (with_reducible refine below_drewN ?_ _) | (with_reducible refine Below.drew ?_) | (with_reducible refine Below.alloc ?_ ?_ _) | (with_reducible refine Below.setCell ?_ ?_ _) | go_size | (simp [more_size]; done) | (simp [more_size]; omega)))
          · first | (simp [more_size]; omega) | omega
        obtain ⟨j1, j2, j3, j4⟩ := join_step hgrow hwhere (by repeat' (first | (with_reducible exact Below.refl _ _) | (with_reducible assumption) | (with_reducible refine below_more ?_ ?_ _) | (with_reducible refine below_drewN ?_ _) | (with_reducible refine Below.drew ?_) | (with_reducible refine Below.alloc ?_ ?_ _) | (with_reducible refine Below.setCell ?_ ?_ _) | go_size | (simp [more_size]; done) | (simp [more_size]; omega))) HAP.out HB2.out n2 A3.out HR3.out hzw
        have HX := Lib.hid hown'
        have HY := Lib.hid hBn
        replace j1 := Lib.hid j1
        replace j2 := Lib.hid j2
        replace j3 := Lib.hid j3
        clear hown' hBn hgrow hwhere
        rw [show ((s.size + 1 : Nat) : Int) = (s.size : Int) + 1 by omega] at HN
        go_roundw
        case rel => exact ⟨k + 1, by omega, by go_num, by rw [HN.out]; exact HX.out, j1.out, j2.out, j3.out, HY.out, j4⟩
        case measure => simp [intOf]; omega
      · have hke : k = q.length := by omega
        subst hke
        have F := Lib.hid (FIN.out wr _ HO.out)
        have hGr := Lib.hid (hG4)
        go_wp2_with (first
          | (go_at_call 13; (with_reducible refine (same_at (ts := r ++ List.map (Tk.sh (s.size + 1)) q) _ _ ?_ ?_).mono ?_); (focus (exact HR3.out)); (focus (exact F.out)); rintro e w5 ⟨rfl, g, rfl⟩)
          | (go_at_call 10; (with_reducible refine (wakes9_any _ ?_).mono ?_); (focus (have hBw := HBW.out; exact HG.out.below (hBw.trans (Below.mono (by repeat' (first | (with_reducible exact Below.refl _ _) | (with_reducible assumption) | (with_reducible refine below_more ?_ ?_ _) | (with_reducible refine below_drewN ?_ _) | (with_reducible refine Below.drew ?_) | (with_reducible refine Below.alloc ?_ ?_ _) | (with_reducible refine Below.setCell ?_ ?_ _) | go_size | (simp [more_size]; done) | (simp [more_size]; omega))) hBw.size)))); rintro e w6 ⟨rfl, g, rfl⟩))
        go_ret
        have hBw := HBW.out
        exact ⟨rfl, hBw.trans (Below.mono (by repeat' (first | (with_reducible exact Below.refl _ _) | (with_reducible assumption) | (with_reducible refine below_more ?_ ?_ _) | (with_reducible refine below_drewN ?_ _) | (with_reducible refine Below.drew ?_) | (with_reducible refine Below.alloc ?_ ?_ _) | (with_reducible refine Below.setCell ?_ ?_ _) | go_size | (simp [more_size]; done) | (simp [more_size]; omega))) hBw.size)⟩
set_option maxRecDepth 100000 in
theorem TokenJoins_any (s t : ByteArray) (w : World) (hg : Gs w) (hs : s.size ≤ 140737488351232) (ht : t.size ≤ 140737488351232) :
    Calls Tryd.prog 6 #[.string s, .string t] w fun e w' => e = .returned (.bool true) ∧ Below w.heap.size w w' := by
  by_cases hst : s.size + t.size ≤ 4000
  · cases hR : Tk.lexR s with
    | error x => obtain ⟨q, ec⟩ := x; exact Joins_no s t w hg hst hR
    | ok r =>
      cases hT : Tk.lexR t with
      | error x => obtain ⟨q, ec⟩ := x; exact Joins_err s t w hg hst hR hT
      | ok q => exact Joins_ok s t w hg hst hR hT
  · have HG := Lib.hid hg
    have h1 : (4000 : Int) < (s.size : Int) + (t.size : Int) := by omega
    have h2 : (s.size : Int) + (t.size : Int) ≤ 281474976702464 := by omega
    clear hg hst
    go_enter Tryd.func6, Tryd.ntmps6
    go_wp2_with (go_at_call 10; (with_reducible refine (wakes9_any _ ?_).mono ?_); (focus (exact HG.out.below (by repeat' (first | (with_reducible exact Below.refl _ _) | (with_reducible assumption) | (with_reducible refine below_more ?_ ?_ _) | (with_reducible refine below_drewN ?_ _) | (with_reducible refine Below.drew ?_) | (with_reducible refine Below.alloc ?_ ?_ _) | (with_reducible refine Below.setCell ?_ ?_ _) | go_size | (simp [more_size]; done) | (simp [more_size]; omega))))); rintro e w2 ⟨rfl, g, rfl⟩)
    go_ret
    exact ⟨rfl, (by repeat' (first | (with_reducible exact Below.refl _ _) | (with_reducible assumption) | (with_reducible refine below_more ?_ ?_ _) | (with_reducible refine below_drewN ?_ _) | (with_reducible refine Below.drew ?_) | (with_reducible refine Below.alloc ?_ ?_ _) | (with_reducible refine Below.setCell ?_ ?_ _) | go_size | (simp [more_size]; done) | (simp [more_size]; omega)))⟩
end Go.Proofs.YtcoakhahjdnlfaaDoor
