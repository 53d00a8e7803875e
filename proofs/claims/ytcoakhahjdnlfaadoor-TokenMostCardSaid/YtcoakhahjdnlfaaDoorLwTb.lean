/- The walk of the law TokenMost. Conditions: the library's variables are as they were laid; numbers lie in their bounds; the text is no longer than a text may be. -/
import Derived.Test.YtcoakhahjdnlfaaDoorLwTa
import Derived.Laws.BytesArg
import Derived.OwnWalk
namespace Go.Proofs.YtcoakhahjdnlfaaDoor
set_option linter.all false
open Go.RowKit
theorem info_byte : (Tryd.prog.info? 5).map (fun i => (i.zero, i.size, i.bytes)) = some (some (.int .u8 0), 1, 1) := by kernel_rfl
theorem reads_byte (w : World) (p : Nat) (a : Value) (e : TypeId) (hp : p = w.heap.size) : Reads (w.alloc (.cells #[a] e)) (.slice (some ⟨p, 0, none⟩) 1 1) 1 1 [a] := by
  subst hp; exact reads_lit w #[a] e 1 1 (by decide) rfl
/-- all that follows when the text is made: both ways of reading it are held against each other -/
theorem convert_plus {W : World} {base : Nat} {v : Value} {k : Nat} (h : W.ownsRow base 5 1 v k (List.replicate k (.int .u8 43))) :
    (convert 31 9 v).run Tryd.prog W = .ok (.string (strOfNums (List.replicate k 43))) W := by
  rcases h.2 with ⟨rfl, hx⟩ | ⟨g, cap, cur, rfl, -, hg, hn, hm, -⟩
  · subst hx
    exact run_convert_bytes_nil W 31 5 Tryd.underlying31 Tryd.underlying5 0 0 9 Tryd.underlying9
  · have hc := h.cells (g := g) rfl
    refine run_convert_bytes_arg W 31 5 Tryd.underlying31 Tryd.underlying5 g 0 k cap (List.replicate k 43) (by simp) ?_ 9 Tryd.underlying9
    intro i hi
    have := hc i (.int .u8 43) (by simp [hi])
    rw [show (⟨g, 0, none⟩ : Addr).add i = ⟨g, 0 + i, none⟩ from by unfold Addr.add; split <;> simp_all] at this
    rw [this]
    simp [List.getD, hi]
set_option maxRecDepth 100000 in
set_option maxHeartbeats 3200000 in
theorem TokenMost_any (n : Int) (tail : ByteArray) (w : World) (hg : Gs w) (n0 : -9223372036854775808 ≤ n) (n1 : n < 9223372036854775808) (hs : tail.size ≤ maxLen) :
    Calls Tryd.prog 4 #[.int .i64 n, .string tail] w fun e w' => e = .returned (.bool true) ∧ Below w.heap.size w w' := by
  have HG := Lib.hid hg
  clear hg
  have hs2 : tail.size ≤ 9223372036854775807 := by unfold maxLen at hs; omega
  by_cases c1 : n < 0
  · go_enter Tryd.func4, Tryd.ntmps4
    go_wp2_with (go_at_call 10; (with_reducible refine (wakes9_any _ ?_).mono ?_); (focus (exact HG.out.below (by repeat' (first | (with_reducible exact Below.refl _ _) | (with_reducible assumption) | (with_reducible refine below_more ?_ ?_ _) | (with_reducible refine below_drewN ?_ _) | (with_reducible refine Below.drew ?_) | (with_reducible refine Below.alloc ?_ ?_ _) | (with_reducible refine Below.setCell ?_ ?_ _) | go_size | (simp [more_size]; done) | (simp [more_size]; omega))))); rintro e w2 ⟨rfl, g, rfl⟩)
    go_ret
    exact ⟨rfl, (by repeat' (first | (with_reducible exact Below.refl _ _) | (with_reducible assumption) | (with_reducible refine below_more ?_ ?_ _) | (with_reducible refine below_drewN ?_ _) | (with_reducible refine Below.drew ?_) | (with_reducible refine Below.alloc ?_ ?_ _) | (with_reducible refine Below.setCell ?_ ?_ _) | go_size | (simp [more_size]; done) | (simp [more_size]; omega)))⟩
  have c1' : 0 ≤ n := by omega
  by_cases c2 : 6010 < n
  · clear c1
    go_enter Tryd.func4, Tryd.ntmps4
    go_wp2_with (go_at_call 10; (with_reducible refine (wakes9_any _ ?_).mono ?_); (focus (exact HG.out.below (by repeat' (first | (with_reducible exact Below.refl _ _) | (with_reducible assumption) | (with_reducible refine below_more ?_ ?_ _) | (with_reducible refine below_drewN ?_ _) | (with_reducible refine Below.drew ?_) | (with_reducible refine Below.alloc ?_ ?_ _) | (with_reducible refine Below.setCell ?_ ?_ _) | go_size | (simp [more_size]; done) | (simp [more_size]; omega))))); rintro e w2 ⟨rfl, g, rfl⟩)
    go_ret
    exact ⟨rfl, (by repeat' (first | (with_reducible exact Below.refl _ _) | (with_reducible assumption) | (with_reducible refine below_more ?_ ?_ _) | (with_reducible refine below_drewN ?_ _) | (with_reducible refine Below.drew ?_) | (with_reducible refine Below.alloc ?_ ?_ _) | (with_reducible refine Below.setCell ?_ ?_ _) | go_size | (simp [more_size]; done) | (simp [more_size]; omega)))⟩
  have c2' : n ≤ 6010 := by omega
  by_cases c3 : (3000 : Int) < (tail.size : Int)
  · clear c1 c2
    go_enter Tryd.func4, Tryd.ntmps4
    go_wp2_with (go_at_call 10; (with_reducible refine (wakes9_any _ ?_).mono ?_); (focus (exact HG.out.below (by repeat' (first | (with_reducible exact Below.refl _ _) | (with_reducible assumption) | (with_reducible refine below_more ?_ ?_ _) | (with_reducible refine below_drewN ?_ _) | (with_reducible refine Below.drew ?_) | (with_reducible refine Below.alloc ?_ ?_ _) | (with_reducible refine Below.setCell ?_ ?_ _) | go_size | (simp [more_size]; done) | (simp [more_size]; omega))))); rintro e w2 ⟨rfl, g, rfl⟩)
    go_ret
    exact ⟨rfl, (by repeat' (first | (with_reducible exact Below.refl _ _) | (with_reducible assumption) | (with_reducible refine below_more ?_ ?_ _) | (with_reducible refine below_drewN ?_ _) | (with_reducible refine Below.drew ?_) | (with_reducible refine Below.alloc ?_ ?_ _) | (with_reducible refine Below.setCell ?_ ?_ _) | go_size | (simp [more_size]; done) | (simp [more_size]; omega)))⟩
  have c3' : (tail.size : Int) ≤ 3000 := by omega
  obtain ⟨m, rfl⟩ : ∃ m : Nat, n = (m : Int) := ⟨n.toNat, by omega⟩
  clear c1 c2 c3 n0 n1
  obtain ⟨i0, hi, hz0, hz1, hz2⟩ := info_parts info_byte
  go_enter Tryd.func4, Tryd.ntmps4
  go_wp2_with (at_make; refine wpList_make_own _ rfl _ _ 31 rfl w.heap.size 5 i0 (.int .u8 0) 1 Tryd.underlying31 hi hz0 hz1 .i64 .i64 _ m rfl rfl rfl (by rw [hz2]; omega) (by unfold maxLen; omega) (by simp) ?_; intro w1 hown1 hgr1)
  have hb1 : Below w.heap.size w w1 := below_grown (Below.refl _ _) (Nat.le_refl _) hgr1 (by simp)
  have hsz1 := hgr1.size
  replace hb1 := Lib.hid hb1
  clear hgr1
  go_loopw [5, 6] (fun v i wr => ∃ k : Nat, k ≤ m ∧ i = .int .i64 k ∧ wr.ownsRow w.heap.size 5 1 v k (List.replicate k (.int .u8 43)) ∧ Below w.heap.size w wr) (fun _ i _ => m - (intOf i).toNat)
  case atStart => exact ⟨0, by omega, rfl, hown1, hb1.out⟩
  case round =>
    obtain ⟨k, hk, rfl, hown, hBw⟩ := hrel
    have hzw := hBw.size
    have HO := Lib.hid hown
    have HBW := Lib.hid hBw
    by_cases hlt : k < m
    · have HN := Lib.hid (show List.replicate (k + 1) (Value.int .u8 43) = List.replicate k (.int .u8 43) ++ [.int .u8 43] by rw [List.replicate_succ'])
      clear hown hBw hown1
      go_wp2_with (at_builtin; refine wpList_append_reads rfl _ _ 31 rfl w.heap.size 5 i0 (.int .u8 0) 1 1 Tryd.underlying31 hi hz0 hz1 hz2 rfl (by decide) _ k _ rfl (owns_kept HO.out ?_) _ 1 [.int .u8 43] rfl (reads_byte _ _ _ 5 ?_) ?_ ?_ ?_ ?_ ?_; (focus (exact (by repeat' (first | (with_reducible exact Below.refl _ _) | (with_reducible assumption) | (with_reducible refine below_more ?_ ?_ _) | (with_reducible refine below_drewN ?_ _) | (with_reducible refine Below.drew ?_) | (with_reducible refine Below.alloc ?_ ?_ _) | (with_reducible refine Below.setCell ?_ ?_ _) | go_size | (simp [more_size]; done) | (simp [more_size]; omega))))); (focus (simp [more_size]; done)); (focus (intro q hq; simp at hq; subst hq; rfl)); (focus (unfold maxLen; omega)); (focus omega); (focus (first | (simp [more_size]; omega) | omega)); intro v' w2 hown' hgrow)
      have hBn : Below w.heap.size w w2 := by
        refine below_grown ?_ ?_ hgrow (owns_rows HO.out)
        · have hBw2 := HBW.out; exact (by repeat' (first | (with_reducible exact Below.refl _ _) | (with_reducible assumption) | (with_reducible refine below_more ?_ ?_ _) | (with_reducible refine below_drewN ?_ _) | (with_reducible refine Below.drew ?_) | (with_reducible refine Below.alloc ?_ ?_ _) | (with_reducible refine Below.setCell ?_ ?_ _) | go_size | (simp [more_size]; done) | (simp [more_size]; omega)))
        · first | (simp [more_size]; omega) | omega
      have HX := Lib.hid hown'
      have HY := Lib.hid hBn
      clear hown' hBn hgrow
      go_roundw
      case rel => exact ⟨k + 1, by omega, by go_num, by rw [HN.out]; exact HX.out, HY.out⟩
      case measure => simp [intOf]; omega
    · have hke : k = m := by omega
      subst hke
      have hcv := convert_plus hown
      have hSz : (strOfNums (List.replicate k 43)).size = k := by rw [strOfNums_size]; simp
      obtain ⟨va, cap, rfl, -, -⟩ := owns_form hown
      clear hown hBw hown1
      generalize strOfNums (List.replicate k 43) = B at *
      have hSS : (B ++ tail).size = k + tail.size := by simp [hSz]
      cases hR : Tk.lexR (B ++ tail) with
      | error e =>
        obtain ⟨p, c⟩ := e
        have HA := Lib.hid (fun W hg => lex_no hR (by omega) W hg)
        have HB := Lib.hid (fun W => rlex_no hR (by omega) W)
        clear hR
        have hGr := Lib.hid (HG.out.below HBW.out)
        go_wp2_with (first
          | (go_at_call 11; (with_reducible refine (HA.out _ ?_).mono ?_); (focus (exact hGr.out.below (by repeat' (first | (with_reducible exact Below.refl _ _) | (with_reducible assumption) | (with_reducible refine below_more ?_ ?_ _) | (with_reducible refine below_drewN ?_ _) | (with_reducible refine Below.drew ?_) | (with_reducible refine Below.alloc ?_ ?_ _) | (with_reducible refine Below.setCell ?_ ?_ _) | go_size | (simp [more_size]; done) | (simp [more_size]; omega))))); rintro e w2 ⟨rfl, g, rfl⟩)
          | (go_at_call 12; (with_reducible refine (HB.out _).mono ?_); rintro e w2 ⟨rfl, g, rfl⟩)
          | (go_at_call 13; (with_reducible refine (same_nil _ _).mono ?_); rintro e w2 ⟨rfl, g, rfl⟩)
          | (go_at_call 10; (with_reducible refine (wakes9_any _ ?_).mono ?_); (focus (exact hGr.out.below (by repeat' (first | (with_reducible exact Below.refl _ _) | (with_reducible assumption) | (with_reducible refine below_more ?_ ?_ _) | (with_reducible refine below_drewN ?_ _) | (with_reducible refine Below.drew ?_) | (with_reducible refine Below.alloc ?_ ?_ _) | (with_reducible refine Below.setCell ?_ ?_ _) | go_size | (simp [more_size]; done) | (simp [more_size]; omega))))); rintro e w2 ⟨rfl, g, rfl⟩))
        go_ret
        have hBw := HBW.out
        exact ⟨rfl, (by repeat' (first | (with_reducible exact Below.refl _ _) | (with_reducible assumption) | (with_reducible refine below_more ?_ ?_ _) | (with_reducible refine below_drewN ?_ _) | (with_reducible refine Below.drew ?_) | (with_reducible refine Below.alloc ?_ ?_ _) | (with_reducible refine Below.setCell ?_ ?_ _) | go_size | (simp [more_size]; done) | (simp [more_size]; omega)))⟩
      | ok ts =>
        have HA := Lib.hid (fun W hg => lex_ok hR (by omega) W hg)
        have HB := Lib.hid (fun W => rlex_ok hR (by omega) W)
        clear hR
        have hGr := Lib.hid (HG.out.below HBW.out)
        go_wp2_with (first
          | (go_at_call 11; (with_reducible refine (HA.out _ ?_).mono ?_); (focus (exact hGr.out.below (by repeat' (first | (with_reducible exact Below.refl _ _) | (with_reducible assumption) | (with_reducible refine below_more ?_ ?_ _) | (with_reducible refine below_drewN ?_ _) | (with_reducible refine Below.drew ?_) | (with_reducible refine Below.alloc ?_ ?_ _) | (with_reducible refine Below.setCell ?_ ?_ _) | go_size | (simp [more_size]; done) | (simp [more_size]; omega))))); rintro e w2 ⟨⟨v1, rfl, HR1⟩, hm1⟩; have hb2 : Below wr.heap.size wr w2 := (by obtain ⟨g, rfl⟩ := hm1; exact (by repeat' (first | (with_reducible exact Below.refl _ _) | (with_reducible assumption) | (with_reducible refine below_more ?_ ?_ _) | (with_reducible refine below_drewN ?_ _) | (with_reducible refine Below.drew ?_) | (with_reducible refine Below.alloc ?_ ?_ _) | (with_reducible refine Below.setCell ?_ ?_ _) | go_size | (simp [more_size]; done) | (simp [more_size]; omega)))); replace hm1 := Lib.hid hm1; replace hb2 := Lib.hid hb2)
          | (go_at_call 12; (with_reducible refine (HB.out _).mono ?_); rintro e w3 ⟨⟨v2, rfl, HR2⟩, hm2⟩; have hb3 : Below w2.heap.size w2 w3 := (by obtain ⟨g, rfl⟩ := hm2; exact (by repeat' (first | (with_reducible exact Below.refl _ _) | (with_reducible assumption) | (with_reducible refine below_more ?_ ?_ _) | (with_reducible refine below_drewN ?_ _) | (with_reducible refine Below.drew ?_) | (with_reducible refine Below.alloc ?_ ?_ _) | (with_reducible refine Below.setCell ?_ ?_ _) | go_size | (simp [more_size]; done) | (simp [more_size]; omega)))); replace hm2 := Lib.hid hm2; replace hb3 := Lib.hid hb3)
          | (go_at_call 13; (with_reducible refine (same_at (ts := ts) _ _ ?_ ?_).mono ?_); (focus (exact HR1.out.1.below hb3.out)); (focus (exact HR2.out.1)); rintro e w4 ⟨rfl, g, rfl⟩)
          | (go_at_call 10; (with_reducible refine (wakes9_any _ ?_).mono ?_); (focus (have q1 := hb2.out; have q2 := hb3.out; have q3 : Below wr.heap.size wr w3 := q1.trans (q2.mono q1.size); exact hGr.out.below (q3.trans (Below.mono (by repeat' (first | (with_reducible exact Below.refl _ _) | (with_reducible assumption) | (with_reducible refine below_more ?_ ?_ _) | (with_reducible refine below_drewN ?_ _) | (with_reducible refine Below.drew ?_) | (with_reducible refine Below.alloc ?_ ?_ _) | (with_reducible refine Below.setCell ?_ ?_ _) | go_size | (simp [more_size]; done) | (simp [more_size]; omega))) q3.size)))); rintro e w5 ⟨rfl, g, rfl⟩))
        go_ret
        have hBw := HBW.out
        have q1 := hb2.out
        have q2 := hb3.out
        have q3 : Below wr.heap.size wr w3 := q1.trans (q2.mono q1.size)
        have q4 : Below w.heap.size w w3 := hBw.trans (q3.mono hBw.size)
        exact ⟨rfl, q4.trans (Below.mono (by repeat' (first | (with_reducible exact Below.refl _ _) | (with_reducible assumption) | (with_reducible refine below_more ?_ ?_ _) | (with_reducible refine below_drewN ?_ _) | (with_reducible refine Below.drew ?_) | (with_reducible refine Below.alloc ?_ ?_ _) | (with_reducible refine Below.setCell ?_ ?_ _) | go_size | (simp [more_size]; done) | (simp [more_size]; omega))) q4.size)⟩
end Go.Proofs.YtcoakhahjdnlfaaDoor
