/- The walk of the law TreePlaces. Conditions: the library's variables are as they were laid; the text's size is bounded. -/
import Derived.Test.YtlhmkfcbldghfaaDoorTxP
import Derived.BigQuiet
namespace Go.Proofs.YtlhmkfcbldghfaaDoor
set_option linter.all false
open Go.RowKit
theorem Tr.bet_head {a b p : Int} {ps : List Int} (h : Tr.Bet a b (p :: ps)) : a ≤ p ∧ p < b ∧ Tr.Bet (p + 1) b ps := by
  have h1 := List.pairwise_cons.1 h.1
  refine ⟨(h.2 p (List.mem_cons_self ..)).1, (h.2 p (List.mem_cons_self ..)).2, h1.2, fun q hq => ⟨?_, (h.2 q (List.mem_cons_of_mem _ hq)).2⟩⟩
  have := h1.1 q hq
  omega
set_option maxRecDepth 100000 in
set_option maxHeartbeats 16000000 in
theorem TreePlaces_any (s : ByteArray) (w : World) (hg : Gs w) :
    Calls Tryd.prog 3 #[.string s] w fun e w' => e = .returned (.bool true) ∧ Below w.heap.size w w' := by
  have HG := Lib.hid hg
  have HF := Lib.hid (Fr.fm_start w none (fun _ => True) (by simp) (fun _ _ _ _ h => h) trivial)
  have HW := Lib.hid (fun W hg => wakes10_any W hg)
  clear hg
  by_cases hbig : 20000 < s.size
  · have hb1 : (20000 : Int) < (s.size : Int) := by omega
    clear hbig
    go_enter Tryd.func3, Tryd.ntmps3
    go_wp2_with (first
      | (go_at_call 4; (with_reducible refine (HW.out _ (HG.out.below (Fr.fm_below HF.out))).mono ?_); rintro e W1 ⟨rfl, hb⟩; replace HF := Lib.hid (HF.out.below hb); clear hb))
    refine bodyPost_ret (v := .bool true) (by simp [results, Tryd.results3, go_sem]; try rfl) rfl ⟨rfl, Fr.fm_below HF.out⟩
  have hb1 : ¬ (20000 : Int) < (s.size : Int) := by omega
  have hs : s.size < 4294967281 := by omega
  cases hX : Tr.parseR s with
  | error qc =>
    obtain ⟨q, c⟩ := qc
    have hc := Tr.parse_err hX
    have HP := Lib.hid (fun W hg => parse_no hX hs W hg)
    clear hX hs hbig
    go_enter Tryd.func3, Tryd.ntmps3
    go_wp2_with (first
      | (go_at_call 5; (with_reducible refine (HP.out _ (HG.out.below (Fr.fm_below HF.out))).mono ?_); rintro e W1 ⟨hgr, rfl⟩; replace HF := Lib.hid (Fr.Fm.call (Kp' := (fun _ => True)) HF.out hgr (fun _ _ _ _ _ => trivial) trivial); clear hgr)
      | ((with_reducible refine Fr.is_alloc ?_); (first | (refine Fr.wl_alloc HF.out Fr.tyM ?_)); intro b1 W1 HF1; replace HF := Lib.hid HF1; clear HF1)
      | ((first | ((with_reducible refine Fr.is_store (T := 30) ?_); (first | (refine Fr.wl_store 0 HF.out Fr.tyM rfl rfl rfl rfl rfl (Nat.le_of_ble_eq_true rfl) (by repeat' (first | exact List.forall_mem_nil _ | refine List.forall_mem_cons.2 ⟨?_, ?_⟩ | rfl | exact (HF.out.da 0 _ _ rfl).one | exact (HF.out.da 1 _ _ rfl).one | exact (HF.out.da 2 _ _ rfl).one | exact (HF.out.da 3 _ _ rfl).one | exact (HF.out.da 4 _ _ rfl).one | exact (HF.out.da 5 _ _ rfl).one | exact (HF.out.da 6 _ _ rfl).one | exact (HF.out.da 7 _ _ rfl).one | exact (HF.out.da 8 _ _ rfl).one | exact (HF.out.da 9 _ _ rfl).one | exact HF.out.rowOne 0 rfl | exact HF.out.rowOne 1 rfl | exact HF.out.rowOne 2 rfl | exact HF.out.rowOne 3 rfl)) ?_)); intro W1 HF1; simp only [Fr.setL, List.set_cons_zero, List.set_cons_succ] at HF1; replace HF := Lib.hid HF1; clear HF1)); (have c0 := HF.out.cellAt 0 rfl 0 rfl); (have c6 := HF.out.cellAt 0 rfl 6 rfl))
      | (go_at_call 4; (with_reducible refine (HW.out _ (HG.out.below (Fr.fm_below HF.out))).mono ?_); rintro e W1 ⟨rfl, hb⟩; replace HF := Lib.hid (HF.out.below hb); clear hb))
    refine bodyPost_ret (v := .bool true) (by simp [results, Tryd.results3, go_sem]; try rfl) rfl ⟨rfl, Fr.fm_below HF.out⟩
  | ok m =>
    obtain ⟨ts, h1, h2, -⟩ := Tr.parse_ok hX
    have hpl := Tr.parsed_places (s.size : Int) ts (Tr.lexR_good h1).2 m h2
    have HP := Lib.hid (fun W hg => parse_yes hX hs W hg)
    have hB := Lib.hid hpl.1
    have hS := Lib.hid hpl.2
    clear hX hs hbig hpl h1 h2
    go_enter Tryd.func3, Tryd.ntmps3
    go_wp2_with (first
      | (go_at_call 5; (with_reducible refine (HP.out _ (HG.out.below (Fr.fm_below HF.out))).mono ?_); rintro e W1 ⟨hgr, v, rfl, hV⟩; obtain ⟨v1, v2, v3, v4, v5, v6, rfl, hd0, hd1, hd2, hd3, hd4, hd5⟩ := Fr.VMo.parts hV; have HF0 := HF.out; have HF2 := Fr.Fm.call (Kp' := (fun _ => True)) HF0 hgr (fun _ _ _ _ _ => trivial) trivial; replace HF := Lib.hid (HF0.since (HF0.since (HF0.since (HF0.since (HF0.since (HF0.since HF2 hd5) hd4) hd3) hd2) hd1) hd0); clear hV hgr HF0 HF2 hd0 hd1 hd2 hd3 hd4 hd5)
      | ((with_reducible refine Fr.is_alloc ?_); (first | (refine Fr.wl_alloc HF.out Fr.tyM ?_)); intro b1 W1 HF1; replace HF := Lib.hid HF1; clear HF1)
      | ((first | ((with_reducible refine Fr.is_store (T := 30) ?_); (first | (refine Fr.wl_store 0 HF.out Fr.tyM rfl rfl rfl rfl rfl (Nat.le_of_ble_eq_true rfl) (by repeat' (first | exact List.forall_mem_nil _ | refine List.forall_mem_cons.2 ⟨?_, ?_⟩ | rfl | exact (HF.out.da 0 _ _ rfl).one | exact (HF.out.da 1 _ _ rfl).one | exact (HF.out.da 2 _ _ rfl).one | exact (HF.out.da 3 _ _ rfl).one | exact (HF.out.da 4 _ _ rfl).one | exact (HF.out.da 5 _ _ rfl).one | exact (HF.out.da 6 _ _ rfl).one | exact (HF.out.da 7 _ _ rfl).one | exact (HF.out.da 8 _ _ rfl).one | exact (HF.out.da 9 _ _ rfl).one | exact HF.out.rowOne 0 rfl | exact HF.out.rowOne 1 rfl | exact HF.out.rowOne 2 rfl | exact HF.out.rowOne 3 rfl)) ?_)); intro W1 HF1; simp only [Fr.setL, List.set_cons_zero, List.set_cons_succ] at HF1; replace HF := Lib.hid HF1; clear HF1)); (have c7 := HF.out.cellAt 0 rfl 7 rfl)))
    obtain ⟨p5, c5, rfl, hl5, hp5⟩ := Fr.Fm.daSlice (m := 4) HF.out rfl
    obtain ⟨p6, c6, rfl, hl6, hp6⟩ := Fr.Fm.daSlice (m := 5) HF.out rfl
    simp only [List.length_map, Fr.stDs_len] at hl5 hp5 hl6 hp6 HF
    have HP5 := Lib.hid hp5
    have HP6 := Lib.hid hp6
    clear hp5 hp6 c7
    try simp only [List.length_map, Fr.stDs_len]
    go_loopg [6, 7] m.procs.length (fun gm v6 v7 wr => ∃ (k : Nat) (last : Int), gm = m.procs.length - k ∧ k ≤ m.procs.length ∧ v6 = .int .i64 last ∧ v7 = .int .i64 k ∧ RowKit.Hid (Tr.Bet (last + 1) (s.size : Int) ((m.procs.drop k).map (·.pos) ++ m.body.map Tr.stPos)) ∧ RowKit.Hid (Fr.Fm w none (fun _ => True) wr [.blk b1 [.string ⟨m.name.toArray⟩, v1, v2, v3, v4, .slice p5 m.procs.length c5, .slice p6 m.body.length c6, .int .i64 m.pos]] [(v1, Da.D.list 3 (m.imports.map Tr.imD)), (v2, Da.D.list 9 (m.de.consts.map Tr.cnD)), (v3, Da.D.list 13 (Tr.fdDs m.de.types)), (v4, Da.D.list 13 (Tr.fdDs m.de.vars)), (.slice p5 m.procs.length c5, Da.D.list 10 (m.procs.map Tr.prD)), (.slice p6 m.body.length c6, Da.D.list 6 (Tr.stDs m.body))]))
    case atStart => exact ⟨0, m.pos, by simp, by omega, rfl, rfl, hB, HF⟩
    case round =>
      clear HF hB
      obtain ⟨k, last, hg, hk, rfl, rfl, HB, HF⟩ := hrel
      have c5' := HF.out.cellAt 0 rfl 5 rfl
      by_cases hlt : k < m.procs.length
      · obtain ⟨b, off, rfl⟩ := HP5.out (by omega)
        have hki : (k : Int) < (m.procs.length : Int) := by omega
        have hk0 : (0 : Int) ≤ (k : Int) := by omega
        have hk1 : (k : Int) ≤ 9223372036854775807 := by omega
        have hB1 := HB.out
        rw [List.drop_eq_getElem_cons hlt, List.map_cons, List.cons_append] at hB1
        have hi : (m.procs.map Tr.prD)[k]? = some (Tr.prD m.procs[k]) := by simp [hlt]
        generalize m.procs[k] = e0 at hB1 hi
        obtain ⟨pn, po, pps, pre, ⟨pc, pt, pv⟩, pb, prt, pp⟩ := e0
        obtain ⟨h1, h2, h3⟩ := Tr.bet_head hB1
        have d1 : decide (pp ≤ last) = false := decide_eq_false (by simp only at h1; omega)
        have d2 : decide ((s.size : Int) ≤ pp) = false := decide_eq_false (by simp only at h2; omega)
        replace HB := Lib.hid h3
        unfold Tr.prD at hi
        obtain ⟨vp, cp, -, HF2⟩ := HF.out.fieldCell (m := 4) rfl k 9 hi rfl
        obtain rfl := Fr.is_int (HF2.da 0 _ _ rfl)
        clear hB1 h1 h2 h3 HF2
        go_wp2
        go_roundg (m.procs.length - (k + 1))
        case rel => exact ⟨k + 1, pp, rfl, hlt, rfl, by simp, HB, HF⟩
        case measure => omega
      · have hki : ¬ (k : Int) < (m.procs.length : Int) := by omega
        have hB1 := HB.out
        rw [List.drop_eq_nil_of_le (by omega), List.map_nil, List.nil_append] at hB1
        replace HB := Lib.hid hB1
        clear hB1
        go_wp2
        have HB0 := HB
        clear hki hlt hg hk c5' HB
        go_loopg [6, 8] m.body.length (fun gm v6 v7 wr => ∃ (k : Nat) (last : Int), gm = m.body.length - k ∧ k ≤ m.body.length ∧ v6 = .int .i64 last ∧ v7 = .int .i64 k ∧ RowKit.Hid (Tr.Bet (last + 1) (s.size : Int) ((m.body.drop k).map Tr.stPos)) ∧ RowKit.Hid (Fr.Fm w none (fun _ => True) wr [.blk b1 [.string ⟨m.name.toArray⟩, v1, v2, v3, v4, .slice p5 m.procs.length c5, .slice p6 m.body.length c6, .int .i64 m.pos]] [(v1, Da.D.list 3 (m.imports.map Tr.imD)), (v2, Da.D.list 9 (m.de.consts.map Tr.cnD)), (v3, Da.D.list 13 (Tr.fdDs m.de.types)), (v4, Da.D.list 13 (Tr.fdDs m.de.vars)), (.slice p5 m.procs.length c5, Da.D.list 10 (m.procs.map Tr.prD)), (.slice p6 m.body.length c6, Da.D.list 6 (Tr.stDs m.body))]))
        case atStart => exact ⟨0, last, by simp, by omega, rfl, rfl, HB0, HF⟩
        case round =>
          clear HF HB0
          obtain ⟨k, last, hg, hk, rfl, rfl, HB, HF⟩ := hrel
          have c6' := HF.out.cellAt 0 rfl 6 rfl
          by_cases hlt : k < m.body.length
          · obtain ⟨b, off, rfl⟩ := HP6.out (by omega)
            have hki : (k : Int) < (m.body.length : Int) := by omega
            have hk0 : (0 : Int) ≤ (k : Int) := by omega
            have hk1 : (k : Int) ≤ 9223372036854775807 := by omega
            have hB1 := HB.out
            rw [List.drop_eq_getElem_cons hlt, List.map_cons] at hB1
            have hmem : m.body[k] ∈ m.body := List.getElem_mem hlt
            have hso := hS.out _ hmem
            have hi : (Tr.stDs m.body)[k]? = some (Tr.stD m.body[k]) := by rw [Tr.stDs_map]; simp [hlt]
            generalize m.body[k] = e0 at hB1 hi hso
            obtain ⟨kd, nm, es, ls, bs, pp⟩ := e0
            obtain ⟨h1, h2, h3⟩ := Tr.bet_head hB1
            simp only [Tr.stPos] at h1 h2 h3
            have d1 : decide (pp ≤ last) = false := decide_eq_false (by omega)
            have d2 : decide ((s.size : Int) ≤ pp) = false := decide_eq_false (by omega)
            replace HB := Lib.hid h3
            have HSO := Lib.hid hso
            unfold Tr.stD at hi
            clear hB1 h1 h2 h3 hmem hso
            go_wp2_with (first
              | ((with_reducible refine Fr.is_load (T := 42) ?_); (refine Fr.wl_loadAt 5 HF.out rfl k rfl (by first | rfl | omega) hi Tryd.underlying42 rfl Fr.tyS rfl ?_); intro css hrow; have hrw := Fr.row_inv hrow; clear hrow; obtain ⟨c0, _, rfl, h0, hrow⟩ := hrw; have hrw := Fr.row_inv hrow; clear hrow; obtain ⟨c1, _, rfl, h1, hrow⟩ := hrw; have hrw := Fr.row_inv hrow; clear hrow; obtain ⟨c2, _, rfl, h2, hrow⟩ := hrw; have hrw := Fr.row_inv hrow; clear hrow; obtain ⟨c3, _, rfl, h3, hrow⟩ := hrw; have hrw := Fr.row_inv hrow; clear hrow; obtain ⟨c4, _, rfl, h4, hrow⟩ := hrw; have hrw := Fr.row_inv hrow; clear hrow; obtain ⟨c5, _, rfl, h5, hrow⟩ := hrw; obtain rfl := Fr.row_inv0 hrow; obtain rfl := Fr.is_str h1; obtain rfl := Fr.is_int h0; obtain rfl := Fr.is_int h5; replace HF := Lib.hid (Fr.Fm.plus (Fr.Fm.plus (Fr.Fm.plus HF.out h4) h3) h2); clear h0 h1 h2 h3 h4 h5 hrow)
              | ((with_reducible refine Fr.is_alloc ?_); (first | (refine Fr.wl_alloc HF.out Fr.tyS ?_)); intro b9 W1 HF1; replace HF := Lib.hid HF1; clear HF1)
              | (first | ((with_reducible refine Fr.is_store (T := 42) ?_); (first | (refine Fr.wl_store 0 HF.out Fr.tyS rfl rfl rfl rfl rfl (Nat.le_of_ble_eq_true rfl) (by repeat' (first | exact List.forall_mem_nil _ | refine List.forall_mem_cons.2 ⟨?_, ?_⟩ | rfl | exact (HF.out.da 0 _ _ rfl).one | exact (HF.out.da 1 _ _ rfl).one | exact (HF.out.da 2 _ _ rfl).one | exact (HF.out.da 3 _ _ rfl).one | exact (HF.out.da 4 _ _ rfl).one | exact (HF.out.da 5 _ _ rfl).one | exact (HF.out.da 6 _ _ rfl).one | exact (HF.out.da 7 _ _ rfl).one | exact (HF.out.da 8 _ _ rfl).one | exact (HF.out.da 9 _ _ rfl).one | exact HF.out.rowOne 0 rfl | exact HF.out.rowOne 1 rfl | exact HF.out.rowOne 2 rfl | exact HF.out.rowOne 3 rfl)) ?_)); intro W1 HF1; simp only [Fr.setL, List.set_cons_zero, List.set_cons_succ] at HF1; replace HF := Lib.hid HF1; clear HF1)))
            have e0 := HF.out.cellAt 0 rfl 0 rfl
            have e5 := HF.out.cellAt 0 rfl 5 rfl
            obtain ⟨p2, c2, rfl, hlx, hp2⟩ := HF.out.daSlice (m := 0) rfl
            rw [Fr.exDs_len'] at hp2 hlx
            simp only [Fr.exDs_len'] at HF
            have e2 := HF.out.cellAt 0 rfl 2 rfl
            try simp only [Fr.exDs_len']
            cases es with
            | nil =>
              simp only [List.length_nil] at e2 HF
              simp only [Act.put, List.setIfInBounds_toArray, List.set_cons_zero, List.set_cons_succ, List.length_nil, List.length_cons]
              go_big_quiet (fail)
              go_wp2
              replace HF := Lib.hid (HF.out.below (below_drewN (Below.refl _ _) nq))
              go_roundg (m.body.length - (k + 1))
              case rel => exact ⟨k + 1, pp, rfl, hlt, rfl, by simp, HB, Lib.hid HF.out.lessR.less.less.less⟩
              case measure => omega
            | cons x xs =>
              obtain ⟨b2, off2, rfl⟩ := hp2 (by simp)
              obtain ⟨xk, xn, xt, xo, xa, xp⟩ := x
              simp only [List.length_cons] at e2 HF
              have hl0 : (0 : Int) < ((xs.length : Nat) : Int) + 1 := by omega
              have hl1 : decide ((0 : Int) < ((xs.length : Nat) : Int) + 1) = true := decide_eq_true hl0
              simp only [List.length_cons] at hlx
              have hl2 : ((xs.length : Nat) : Int) + 1 ≤ 9223372036854775807 := by omega
              simp only [Tr.exDs, Tr.exD] at HF
              obtain ⟨ve, ce, -, HF2⟩ := HF.out.fieldCell (m := 0) rfl 0 5 rfl rfl
              obtain rfl := Fr.is_int (HF2.da 0 _ _ rfl)
              clear HF2
              by_cases hk6 : kd = 6
              · subst hk6
                simp only [Act.put, List.setIfInBounds_toArray, List.set_cons_zero, List.set_cons_succ, List.length_nil, List.length_cons]
                go_big_quiet (fail)
                go_wp2
                replace HF := Lib.hid (HF.out.below (below_drewN (Below.refl _ _) nq))
                go_roundg (m.body.length - (k + 1))
                case rel => exact ⟨k + 1, pp, rfl, hlt, rfl, by simp, HB, Lib.hid HF.out.lessR.less.less.less⟩
                case measure => omega
              · have hk6' : (kd != 6) = true := by simp [hk6]
                have d3 : decide (xp < pp) = false := decide_eq_false (by have h := HSO.out hk6 _ _ rfl; simp only [Tr.stPos, Tr.exPos] at h; omega)
                simp only [Act.put, List.setIfInBounds_toArray, List.set_cons_zero, List.set_cons_succ, List.length_nil, List.length_cons]
                go_big_quiet (fail)
                go_wp2
                replace HF := Lib.hid (HF.out.below (below_drewN (Below.refl _ _) nq))
                go_roundg (m.body.length - (k + 1))
                case rel => exact ⟨k + 1, pp, rfl, hlt, rfl, by simp, HB, Lib.hid HF.out.lessR.less.less.less⟩
                case measure => omega
          · have hki : ¬ (k : Int) < (m.body.length : Int) := by omega
            go_wp2_with (first
              | (go_at_call 4; (with_reducible refine (HW.out _ (HG.out.below (Fr.fm_below HF.out))).mono ?_); rintro e W1 ⟨rfl, hb⟩; replace HF := Lib.hid (HF.out.below hb); clear hb))
            refine bodyPost_ret (v := .bool true) (by simp [results, Tryd.results3, go_sem]; try rfl) rfl ⟨rfl, Fr.fm_below HF.out⟩
end Go.Proofs.YtlhmkfcbldghfaaDoor
