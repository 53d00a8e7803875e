/- The walks of consts.Two where a value is turned into a character. Written by gen_two.py. Conditions: texts are shorter than a text may be. -/
import Derived.Test.YthcpedonpiihnaaConU
namespace Go.Proofs.Ythcpedonpiihnaa
set_option linter.all false
open Go.RowKit
set_option maxRecDepth 100000 in
set_option maxHeartbeats 3200000 in
theorem Two_c (op : ByteArray) (na nb : Int) (ta tb : ByteArray) (w : World) (sa : ta.size < 4294967281) (sb : tb.size < 4294967281) (so : op.size ≤ maxLen) (a0 : -9223372036854775808 ≤ na) (a1 : na < 9223372036854775808) (b0 : -9223372036854775808 ≤ nb) (b1 : nb < 9223372036854775808) (fb fb' nb' : Int) (tb' : ByteArray) (fb0 : -9223372036854775808 ≤ fb') (fb1 : fb' < 9223372036854775808) (ga : Sp.good 3 na ta.data.toList = true) (gb : Sp.good fb nb tb.data.toList = true) (hb : (fb == 3) = false) (hx : Sp.charF fb nb tb.data.toList = (fb', nb', tb'.data.toList) ∧ Sp.good fb' nb' tb'.data.toList = true) :
    Calls Try.prog 18 #[.string op, .agg #[.int .i64 3, .int .i64 na, .string ta], .agg #[.int .i64 fb, .int .i64 nb, .string tb]] w fun e w' => e = .returned (Sp.R (Sp.core op.data.toList 3 na ta.data.toList fb' nb' tb'.data.toList)) ∧ ∃ g, w' = more w g := by
  have hmm := @run_makeMap Try.prog
  have H1 := Lib.hid hx
  clear hx
  go_enter Try.func18, Try.ntmps18
  go_wp2_with (first | (go_at_call 33; refine (Good_any _ _ _ _ (by assumption) (by assumption) (by assumption)).mono ?_; rintro e w' ⟨rfl, g, rfl⟩) | (go_at_call 46; ((with_reducible refine (char_k H1.out.1 _).mono ?_); rintro e w' ⟨rfl, g, rfl⟩)))
  generalize hT : more _ _ = T
  generalize hB : HAdd.hAdd (w.heap.size + 1 + 1 + 1) _ = B
  have hBT : B = T.heap.size := by rw [← hB, ← hT]; simp [go_sem]
  subst hBT
  have HT := Lib.hid hT; have HB := Lib.hid hB; clear hT hB
  have GA := Lib.hid ga; have GB := Lib.hid gb
  clear ga gb
  have hT0 : Tab (T.alloc (.map #[] 0)) T.heap.size (And' (fun _ => False) []) := ⟨#[], 0, last_map T #[] 0, by simp, fun k => by simp [And']⟩
  refine (ints_any T.heap.size _ _ hT0 (fun _ => id)).mono ?_
  rintro e W1 ⟨rfl, hg1, hT1⟩
  go_wp2_with fail
  refine (sets_any T.heap.size (And' (fun _ => False) intsL) _ (hT1.congr fun k => by simp [And']) (by simp [And', ky]) (by simp [And', ky])).mono ?_
  rintro e W2 ⟨rfl, hg2, hT2⟩
  go_wp2_with fail
  refine (relations_any T.heap.size S2 _ hT2 S2_rel).mono ?_
  rintro e W3 ⟨rfl, hg3, hT3⟩
  replace hT3 : Tab W3 T.heap.size S3 := hT3
  have hg : T.grownBy W3 (some T.heap.size) := (World.grownBy_alloc T _ _).trans (hg1.trans (hg2.trans hg3))
  have hlt := hT3.lt
  clear hT0 hT1 hT2 hg1 hg2 hg3
  have hrg := fun (V : World) (es : Array MapEntry) (c : Nat) => run_range_map (P := Try.prog) (t := 74) (V.alloc (.map es c)) V.heap.size es c (last_map V es c) Try.underlying74
  go_wp2_with ((with_reducible refine wpList_insert_last ?_ Try.underlying74 Try.underlying9 ?_ ?_ ?_); (focus rfl); (focus exact True.intro); (focus rfl); simp only [Act.eval])
  go_loopg [9] 2 (fun k (_ : Value) wr => ∃ seen : Array Nat, k = (leftOf boolEs seen).size ∧ wr.heap[W3.heap.size + 1]? = some (.mapIter (some W3.heap.size) 2 seen 2) ∧ wr.heap[W3.heap.size]? = some (.map boolEs 2) ∧ W3.grownBy wr (some T.heap.size) ∧ Tab wr T.heap.size (fun x => S3 x ∨ BoolSeen seen x))
  case atStart =>
    have g1 := World.grownBy_alloc W3 (.map boolEs 2) (some T.heap.size)
    have g2 := World.grownBy_alloc (W3.alloc (.map boolEs 2)) (.mapIter (some W3.heap.size) 2 #[] 2) (some T.heap.size)
    refine ⟨#[], by simp [leftOf, boolEs], last_any (W3.alloc (.map boolEs 2)) _ (by simp), ?_, g1.trans g2, ?_⟩
    · exact (Below.heap_alloc (W3.alloc (.map boolEs 2)) _ W3.heap.size (by simp)).trans (last_map W3 boolEs 2)
    · refine (hT3.still (hT3.stays (g1.trans g2)) ?_).congr fun k => ?_
      · exact (Below.heap_alloc (W3.alloc (.map boolEs 2)) _ T.heap.size (by simp; omega)).trans (Below.heap_alloc W3 _ T.heap.size hlt)
      · constructor
        · exact fun h => .inl h
        · rintro (h | ⟨e, _, h, _⟩)
          · exact h
          · simp at h
  case round =>
    obtain ⟨seen, hk, hr, hm, hgw, hTr⟩ := hrel
    have HK := Lib.hid hk; clear hk
    rcases run_next_at (P := Try.prog) wr 0 _ _ _ _ seen boolEs 2 hr hm boolEs_born (Nat.le_refl _) with ⟨h0, hn⟩ | ⟨e, he, w1, hw1, hn⟩
    · have hn' : ∀ ty, (Instr.next (.pointer (some ⟨W3.heap.size + 1, 0, none⟩)) false ty).run Try.prog wr = .ok (.tuple #[.bool false]) wr := fun _ => hn
      have hS : ∀ k, AllKeys k → S3 k ∨ BoolSeen seen k := fun k hk => (all_keys k hk).imp id fun ⟨e, h1, h3⟩ => ⟨e, h1, by
        rcases Classical.em (e.born ∈ seen) with h | h
        · exact h
        · exfalso
          have : e ∈ leftOf boolEs seen := by simp [leftOf, h, Array.mem_toList_iff.1 h1]
          rw [Array.eq_empty_of_size_eq_zero h0] at this
          simp at this, h3⟩
      obtain ⟨gw, hgw'⟩ : ∃ gw, wr = more T gw := by
        have hg' := hg.trans hgw
        exact more_of_below ⟨hg'.os, hg'.tape, hg'.output, hg'.size, fun k hk => hg'.block k hk (by simp; omega)⟩
      have hfd := tab_find (fa := 3) (fb := fb') (op := op) (na := na) (nb := nb') (ta := ta) (tb := tb') hTr hS (fun k => bool_all k) so GA.out H1.out.2 (by first | assumption | decide) (by first | assumption | decide) (by first | assumption | decide) (by first | assumption | decide)
      have hcl : ∀ b i, b < T.heap.size → wr.cell? ⟨b, i, none⟩ = T.cell? ⟨b, i, none⟩ := fun b i h => by rw [hgw']; exact more_cell T gw b i h
      have hfz : ∀ b i, b < T.heap.size → wr.frozen? ⟨b, i, none⟩ = T.frozen? ⟨b, i, none⟩ := fun b i h => by rw [hgw']; exact more_frozen T gw b i h
      have hzT := HB.out
      have hzw : T.heap.size ≤ wr.heap.size := by rw [hgw']; simp [more]
      have c0 := hcl w.heap.size 0 (by omega)
      have c1 := hcl w.heap.size 1 (by omega)
      have c2 := hcl w.heap.size 2 (by omega)
      have d0 := hcl (w.heap.size + 1) 0 (by omega)
      have d1 := hcl (w.heap.size + 1) 1 (by omega)
      have d2 := hcl (w.heap.size + 1) 2 (by omega)
      have e0 := hcl (w.heap.size + 1 + 1) 0 (by omega)
      have e1 := hcl (w.heap.size + 1 + 1) 1 (by omega)
      have e2 := hcl (w.heap.size + 1 + 1) 2 (by omega)
      have f0 := hfz (w.heap.size + 1 + 1) 0 (by omega)
      have f1 := hfz (w.heap.size + 1 + 1) 1 (by omega)
      have f2 := hfz (w.heap.size + 1 + 1) 2 (by omega)
      rw [← HT.out] at c0 c1 c2 d0 d1 d2 e0 e1 e2 f0 f1 f2
      simp [go_sem] at c0 c1 c2 d0 d1 d2 e0 e1 e2 f0 f1 f2
      have BT : Below w.heap.size w T := by rw [← HT.out]; exact (by repeat' (first | (with_reducible exact Below.refl _ _) | (with_reducible assumption) | (with_reducible refine below_more ?_ ?_ _) | (with_reducible refine below_drewN ?_ _) | (with_reducible refine Below.drew ?_) | (with_reducible refine Below.alloc ?_ ?_ _) | (with_reducible refine Below.setCell ?_ ?_ _) | go_size))
      have BW : Below w.heap.size w wr := by rw [hgw']; exact below_more BT (by omega) gw
      have z0 : w.heap.size < wr.heap.size := by omega
      have z1 : w.heap.size + 1 < wr.heap.size := by omega
      have z2 : w.heap.size + 1 + 1 < wr.heap.size := by omega
      clear hcl hfz hzT hzw BT
      clear hTr hn hgw hr hm hT3 hg hlt h0 hS hrg hgw'
      rcases hfd with ⟨hl, hcore⟩ | ⟨fn, caps, hl, heg, hcall⟩
      · have HC := Lib.hid hcore; clear hcore
        unfold ky at hl
        go_wp2_with fail
        (try simp only [Exit.inBlock, Exit.then])
        refine bodyPost_ret (by simp [results, Try.results18, go_sem, e0, e1, e2]; try rfl) rfl ?_
        exact ⟨by rw [HC.out], more_of_below (by repeat' (first | (with_reducible exact Below.refl _ _) | (with_reducible assumption) | (with_reducible refine below_more ?_ ?_ _) | (with_reducible refine below_drewN ?_ _) | (with_reducible refine Below.drew ?_) | (with_reducible refine Below.alloc ?_ ?_ _) | (with_reducible refine Below.setCell ?_ ?_ _) | go_size))⟩
      · have HC := Lib.hid hcall; clear hcall
        unfold ky at hl
        go_wp2_with fail
        refine (HC.out wr (Still.refl wr)).mono ?_
        rintro e w' ⟨rfl, gz, rfl⟩
        go_wp2_with fail
        (try simp only [Exit.inBlock, Exit.then])
        refine bodyPost_ret (by simp [results, Try.results18, go_sem, e0, e1, e2, z2]; try rfl) rfl ?_
        exact ⟨rfl, more_of_below (by repeat' (first | (with_reducible exact Below.refl _ _) | (with_reducible assumption) | (with_reducible refine below_more ?_ ?_ _) | (with_reducible refine below_drewN ?_ _) | (with_reducible refine Below.drew ?_) | (with_reducible refine Below.alloc ?_ ?_ _) | (with_reducible refine Below.setCell ?_ ?_ _) | go_size))⟩
    · obtain ⟨heR, heN⟩ : e ∈ boolEs.toList ∧ e.born ∉ seen := by simpa [leftOf] using he
      have HSH := Lib.hid (show (leftOf boolEs (seen.push e.born)).size < gk from by have h1 := HK.out; have h2 := left_shrinks boolEs seen e he; omega)
      obtain ⟨s, g', hsg, hek, hev⟩ := boolEs_shape e heR
      obtain ⟨W1, hW1⟩ : ∃ W1, ChangeMaps.setBlock w1 (W3.heap.size + 1) (.mapIter (some W3.heap.size) 2 (seen.push e.born) 2) = W1 := ⟨_, rfl⟩
      rw [hW1] at hn
      have hwr : w1.heap = wr.heap := by rcases hw1 with rfl | rfl <;> rfl
      have hrl : W3.heap.size + 1 < wr.heap.size := (Array.getElem?_eq_some_iff.1 hr).1
      have hr1 : W1.heap[W3.heap.size + 1]? = some (.mapIter (some W3.heap.size) 2 (seen.push e.born) 2) := by rw [← hW1]; simp [ChangeMaps.setBlock, hwr, hrl]
      have hblk : ∀ k, k ≠ W3.heap.size + 1 → W1.heap[k]? = wr.heap[k]? := by intro k hk; rw [← hW1]; simp [ChangeMaps.setBlock, hwr, Ne.symm hk]
      have hsz1 : W1.heap.size = wr.heap.size := by rw [← hW1]; simp [ChangeMaps.setBlock, hwr]
      have hm1 : W1.heap[W3.heap.size]? = some (.map boolEs 2) := (hblk _ (by omega)).trans hm
      have hst1 : Still wr W1 := by
        refine ⟨by omega, fun k v hv => ?_⟩
        by_cases hk : k = W3.heap.size + 1
        · subst hk; unfold World.cell? at hv; rw [hr] at hv; cases hv
        · rw [World.cell?_of_block (w := wr) (a := ⟨k, 0, none⟩) (hblk k hk)]; exact hv
      have hT1 := hTr.still hst1 (hblk T.heap.size (by omega))
      have hos : W1.os = wr.os ∧ W1.tape = wr.tape ∧ W1.output = wr.output := by rw [← hW1]; rcases hw1 with rfl | rfl <;> exact ⟨rfl, rfl, rfl⟩
      have hg1 : W3.grownBy W1 (some T.heap.size) := ⟨hos.1.trans hgw.os, hos.2.1.trans hgw.tape, hos.2.2.trans hgw.output, by omega, fun k hk hne => (hblk k (by omega)).trans (hgw.block k hk hne)⟩
      have hen := run_entry_at (P := Try.prog) W1 _ _ 2 seen boolEs 2 e hr1 hm1 heR boolEs_nodup
      rw [hek, hev] at hen hn
      have hn' : ∀ ty, (Instr.next (.pointer (some ⟨W3.heap.size + 1, 0, none⟩)) false ty).run Try.prog wr = .ok (.tuple #[.bool true, .string s, .func (.func g') #[] #[]]) W1 := fun _ => hn
      have hnot : ¬ (S3 (ky 2 2 s) ∨ BoolSeen seen (ky 2 2 s)) := by
        rintro (h | ⟨e', h1, h2, s', h3, h4⟩)
        · exact S3_bool s g' hsg h
        · have := (ky_inj h4).2.2
          subst this
          exact heN (boolEs_key e' e h1 heR (h3.trans hek.symm) ▸ h2)
      have hg12 := World.grownBy_alloc W1 (.cells #[.func (.func g') #[] #[]] 73) (some T.heap.size)
      have hT2 := hT1.still (hT1.stays hg12) (Below.heap_alloc _ _ _ hT1.lt)
      obtain ⟨W', hru, hgu, hTu⟩ := hT2.put (v := .func (.func 52) #[] #[.pointer (some ⟨W1.heap.size, 0, none⟩)]) hnot (.inr <| .inr <| .inr <| .inr ⟨s, g', hsg, rfl, W1.heap.size, by simp, rfl, by simp [go_sem]⟩)
      have hgg := hg12.trans hgu
      have hbk : ∀ k, k < W1.heap.size → k ≠ T.heap.size → W'.heap[k]? = W1.heap[k]? := fun k hk hne => hgg.block k hk (by simpa using hne)
      have HN := Lib.hid (show W'.heap[W3.heap.size + 1]? = some (.mapIter (some W3.heap.size) 2 (seen.push e.born) 2) ∧ W'.heap[W3.heap.size]? = some (.map boolEs 2) ∧ W3.grownBy W' (some T.heap.size) ∧ Tab W' T.heap.size (fun x => S3 x ∨ BoolSeen (seen.push e.born) x) from
        ⟨(hbk _ (by omega) (by omega)).trans hr1, (hbk _ (by omega) (by omega)).trans hm1, hg1.trans hgg, hTu.congr fun k => by
          constructor
          · rintro ((h | ⟨e', h1, h2, h3⟩) | rfl)
            · exact .inl h
            · exact .inr ⟨e', h1, by simp [h2], h3⟩
            · exact .inr ⟨e, heR, by simp, s, hek, rfl⟩
          · rintro (h | ⟨e', h1, h2, h3⟩)
            · exact .inl (.inl h)
            · rcases Array.mem_push.1 h2 with h2 | h2
              · exact .inl (.inr ⟨e', h1, h2, h3⟩)
              · have : e' = e := boolEs_same e' e h1 heR h2
                subst this
                obtain ⟨s', h4, h8⟩ := h3
                obtain rfl : s' = s := by simpa using h4.symm.trans hek
                exact .inr h8⟩)
      unfold ky at hru
      clear hn hW1 hst1 hTr hw1 hwr hgw hr hm hos he hT1 hT2 hTu hgu hgg hg12 hnot hbk hr1 hm1 hblk hsz1 hrl hT3 hg hlt hrg hg1 hek hev heR heN hsg
      go_wp2_with fail
      go_roundg ((leftOf boolEs (seen.push e.born)).size)
      case measure => exact HSH.out
      case rel => exact ⟨seen.push e.born, rfl, HN.out⟩
end Go.Proofs.Ythcpedonpiihnaa
