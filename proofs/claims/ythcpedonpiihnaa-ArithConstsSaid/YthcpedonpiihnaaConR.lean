/- The walk of consts.relations: in whatever order the relations come, all of them are laid. Conditions: the map lies in a block of its own, and no relation lies there yet. -/
import Derived.Test.YthcpedonpiihnaaConT
import Derived.Maps.RangeRun
import Derived.Laws.EntriesVeiled
namespace Go.Proofs.Ythcpedonpiihnaa
set_option linter.unusedSimpArgs false
set_option linter.unusedVariables false
open Go.RowKit
theorem run_range_map {P : Program} {t k e : TypeId} (W : World) (m : Nat) (es : Array MapEntry) (c : Nat) (hm : W.heap[m]? = some (.map es c)) (ht : P.underlying t = some (.map k e)) :
    (Instr.range t (.map (some m))).run P W = .ok (.pointer (some ⟨W.heap.size, 0, none⟩)) (W.alloc (.mapIter (some m) c #[] c)) := by
  simp [Instr.range, run_underlying ht, MapKept.run_getObj_map hm]
theorem last_any (W : World) (o : Obj) {n : Nat} (h : n = W.heap.size) : (W.alloc o).heap[n]? = some o := by subst h; exact (MapKept.heap_alloc W _).1
/-- the relations, as the literal lays them -/
def relEs : Array MapEntry := #[⟨.string ⟨#[61]⟩, .func (.func 110) #[] #[], 0⟩, ⟨.string ⟨#[35]⟩, .func (.func 111) #[] #[], 1⟩, ⟨.string ⟨#[60]⟩, .func (.func 112) #[] #[], 2⟩, ⟨.string ⟨#[60, 61]⟩, .func (.func 113) #[] #[], 3⟩, ⟨.string ⟨#[62]⟩, .func (.func 114) #[] #[], 4⟩, ⟨.string ⟨#[62, 61]⟩, .func (.func 115) #[] #[], 5⟩]
/-- which forms a relation has -/
def allowed (s : List UInt8) (f : Int) : Bool := s == [61] || s == [35] || f == 1 || f == 3 || f == 6
def RelSeen (seen : Array Nat) (x : Value) : Prop := ∃ e ∈ relEs.toList, e.born ∈ seen ∧ ∃ (s : ByteArray) (f : Int), e.key = .string s ∧ 1 ≤ f ∧ f ≤ 6 ∧ allowed s.toList f = true ∧ x = ky f f s
def RelAll (x : Value) : Prop := ∃ e ∈ relEs.toList, ∃ (s : ByteArray) (f : Int), e.key = .string s ∧ 1 ≤ f ∧ f ≤ 6 ∧ allowed s.toList f = true ∧ x = ky f f s
theorem relEs_born (x : MapEntry) (h : x ∈ relEs.toList) : x.born < 6 := by
  simp [relEs] at h
  rcases h with rfl | rfl | rfl | rfl | rfl | rfl <;> decide
theorem relEs_nodup : (relEs.toList.map (·.born)).Nodup := by simp [relEs]
theorem relEs_shape (e : MapEntry) (h : e ∈ relEs.toList) : ∃ s g, (s, g) ∈ relsAt ∧ e.key = .string s ∧ e.val = .func (.func g) #[] #[] := by
  simp [relEs] at h
  rcases h with rfl | rfl | rfl | rfl | rfl | rfl
  all_goals exact ⟨_, _, by simp [relsAt], rfl, rfl⟩
theorem relEs_same (e e' : MapEntry) (h : e ∈ relEs.toList) (h' : e' ∈ relEs.toList) (hk : e.born = e'.born) : e = e' := by
  simp [relEs] at h h'
  rcases h with rfl | rfl | rfl | rfl | rfl | rfl <;> rcases h' with rfl | rfl | rfl | rfl | rfl | rfl <;> first | rfl | (simp at hk)
theorem relEs_key (e e' : MapEntry) (h : e ∈ relEs.toList) (h' : e' ∈ relEs.toList) (hk : e.key = e'.key) : e.born = e'.born := by
  simp [relEs] at h h'
  rcases h with rfl | rfl | rfl | rfl | rfl | rfl <;> rcases h' with rfl | rfl | rfl | rfl | rfl | rfl <;> first | rfl | (simp at hk)
set_option maxRecDepth 100000 in
set_option maxHeartbeats 1600000 in
theorem relations_any (b : Nat) (S : Value → Prop) (W : World) (hT : Tab W b S) (hS : ∀ (f : Int) s g, (s, g) ∈ relsAt → ¬ S (ky f f s)) :
    Calls Try.prog 49 #[.map (some b)] W (Lays b (fun x => S x ∨ RelAll x) W) := by
  have hlt := hT.lt
  have hmm := @run_makeMap Try.prog
  have hrg := fun (V : World) (es : Array MapEntry) (c : Nat) => run_range_map (P := Try.prog) (t := 112) (V.alloc (.map es c)) V.heap.size es c (last_map V es c) Try.underlying112
  go_enter Try.func49, Try.ntmps49
  go_wp2_with ((with_reducible refine wpList_insert_last ?_ Try.underlying112 Try.underlying9 ?_ ?_ ?_); (focus rfl); (focus exact True.intro); (focus rfl); simp only [Act.eval])
  go_loopg [2] 6 (fun k (_ : Value) wr => ∃ seen : Array Nat, k = (leftOf relEs seen).size ∧ wr.heap[W.heap.size + 1]? = some (.mapIter (some W.heap.size) 6 seen 6) ∧ wr.heap[W.heap.size]? = some (.map relEs 6) ∧ W.grownBy wr (some b) ∧ Tab wr b (fun x => S x ∨ RelSeen seen x))
  case atStart =>
    have g1 := World.grownBy_alloc W (.map relEs 6) (some b)
    have g2 := World.grownBy_alloc (W.alloc (.map relEs 6)) (.mapIter (some W.heap.size) 6 #[] 6) (some b)
    refine ⟨#[], by simp [leftOf, relEs], last_any (W.alloc (.map relEs 6)) _ (by simp), ?_, g1.trans g2, ?_⟩
    · exact (Below.heap_alloc (W.alloc (.map relEs 6)) _ W.heap.size (by simp)).trans (last_map W relEs 6)
    · refine (hT.still (hT.stays (g1.trans g2)) ?_).congr fun k => ?_
      · exact (Below.heap_alloc (W.alloc (.map relEs 6)) _ b (by simp; omega)).trans (Below.heap_alloc W _ b hlt)
      · constructor
        · exact fun h => .inl h
        · rintro (h | ⟨e, _, h, _⟩)
          · exact h
          · simp at h
  case round =>
    obtain ⟨seen, hk, hr, hm, hg, hTr⟩ := hrel
    have HK := Lib.hid hk; clear hk
    rcases run_next_at (P := Try.prog) wr 0 _ _ _ _ seen relEs 6 hr hm relEs_born (Nat.le_refl _) with ⟨h0, hn⟩ | ⟨e, he, w1, hw1, hn⟩
    · have hn' : ∀ ty, (Instr.next (.pointer (some ⟨W.heap.size + 1, 0, none⟩)) false ty).run Try.prog wr = .ok (.tuple #[.bool false]) wr := fun _ => hn
      have HF : Lays b (fun x => S x ∨ RelAll x) W (.returned (.tuple #[])) wr := ⟨rfl, hg, hTr.congr fun k => ?_⟩
      · clear hTr hn hg hr hm hS hT
        have H0 := Lib.hid h0; clear h0
        go_wp2
        go_end0
        exact HF
      · refine or_congr Iff.rfl ⟨fun ⟨e, h1, _, h3⟩ => ⟨e, h1, h3⟩, fun ⟨e, h1, h3⟩ => ⟨e, h1, ?_, h3⟩⟩
        rcases Classical.em (e.born ∈ seen) with h | h
        · exact h
        · exfalso
          have : e ∈ leftOf relEs seen := by simp [leftOf, h, Array.mem_toList_iff.1 h1]
          rw [Array.eq_empty_of_size_eq_zero h0] at this
          simp at this
    · obtain ⟨heR, heN⟩ : e ∈ relEs.toList ∧ e.born ∉ seen := by simpa [leftOf] using he
      have HSH := Lib.hid (show (leftOf relEs (seen.push e.born)).size < gk from by have h1 := HK.out; have h2 := left_shrinks relEs seen e he; omega)
      obtain ⟨s, g, hsg, hek, hev⟩ := relEs_shape e heR
      -- the world behind the step
      obtain ⟨W1, hW1⟩ : ∃ W1, ChangeMaps.setBlock w1 (W.heap.size + 1) (.mapIter (some W.heap.size) 6 (seen.push e.born) 6) = W1 := ⟨_, rfl⟩
      rw [hW1] at hn
      have hwr : w1.heap = wr.heap := by rcases hw1 with rfl | rfl <;> rfl
      have hrl : W.heap.size + 1 < wr.heap.size := (Array.getElem?_eq_some_iff.1 hr).1
      have hr1 : W1.heap[W.heap.size + 1]? = some (.mapIter (some W.heap.size) 6 (seen.push e.born) 6) := by rw [← hW1]; simp [ChangeMaps.setBlock, hwr, hrl]
      have hblk : ∀ k, k ≠ W.heap.size + 1 → W1.heap[k]? = wr.heap[k]? := by intro k hk; rw [← hW1]; simp [ChangeMaps.setBlock, hwr, Ne.symm hk]
      have hsz1 : W1.heap.size = wr.heap.size := by rw [← hW1]; simp [ChangeMaps.setBlock, hwr]
      have hm1 : W1.heap[W.heap.size]? = some (.map relEs 6) := (hblk _ (by omega)).trans hm
      have hst1 : Still wr W1 := by
        refine ⟨by omega, fun k v hv => ?_⟩
        by_cases hk : k = W.heap.size + 1
        · subst hk; unfold World.cell? at hv; rw [hr] at hv; cases hv
        · rw [World.cell?_of_block (w := wr) (a := ⟨k, 0, none⟩) (hblk k hk)]; exact hv
      have hT1 := hTr.still hst1 (hblk b (by omega))
      have hos : W1.os = wr.os ∧ W1.tape = wr.tape ∧ W1.output = wr.output := by rw [← hW1]; rcases hw1 with rfl | rfl <;> exact ⟨rfl, rfl, rfl⟩
      have hg1 : W.grownBy W1 (some b) := ⟨hos.1.trans hg.os, hos.2.1.trans hg.tape, hos.2.2.trans hg.output, by omega, fun k hk hne => (hblk k (by omega)).trans (hg.block k hk hne)⟩
      have hen := run_entry_at (P := Try.prog) W1 _ _ 6 seen relEs 6 e hr1 hm1 heR relEs_nodup
      rw [hek, hev] at hen hn
      have hn' : ∀ ty, (Instr.next (.pointer (some ⟨W.heap.size + 1, 0, none⟩)) false ty).run Try.prog wr = .ok (.tuple #[.bool true, .string s, .func (.func g) #[] #[]]) W1 := fun _ => hn
      clear hn hW1 hst1 hTr hw1 hwr hg hr hm hos he
      have HR1 := Lib.hid hr1; have HM1 := Lib.hid hm1; have HB := Lib.hid hblk; have HS1 := Lib.hid hsz1; have HS := Lib.hid hS; have HEK := Lib.hid hek; have HEV := Lib.hid hev
      clear hr1 hm1 hblk hsz1 hS hek hev
      go_wp2_with fail
      obtain ⟨W2, hW2⟩ : ∃ W2, W1.alloc (.cells #[.func (.func g) #[] #[]] 111) = W2 := ⟨_, rfl⟩
      rw [hW2]
      have hp2 : W2.cell? ⟨W1.heap.size, 0, none⟩ = some (.func (.func g) #[] #[]) := by rw [← hW2]; simp [go_sem]
      have hpl2 : W1.heap.size < W2.heap.size := by rw [← hW2]; simp
      have hg12 : W1.grownBy W2 (some b) := by rw [← hW2]; exact World.grownBy_alloc _ _ _
      have hT2 := hT1.still (hT1.stays hg12) (by rw [← hW2]; exact Below.heap_alloc _ _ _ hT1.lt)
      generalize hpb : W1.heap.size = pb at *
      have HPB := Lib.hid hpb; have HW2 := Lib.hid hW2
      clear hpb hW2 hn' hen
      have HP2 := Lib.hid hp2; clear hp2
      go_loopg [4] 6 (fun k v4 wr' => ∃ f : Int, k = (7 - f).toNat ∧ 1 ≤ f ∧ f ≤ 7 ∧ v4 = .int .i64 f ∧ W2.grownBy wr' (some b) ∧ Tab wr' b (fun x => (S x ∨ RelSeen seen x) ∨ ∃ f' : Int, 1 ≤ f' ∧ f' < f ∧ allowed s.toList f' = true ∧ x = ky f' f' s))
      case atStart =>
        refine ⟨1, rfl, by omega, by omega, rfl, World.grownBy.refl _ _, hT2.congr fun k => ⟨.inl, fun h => h.elim id fun ⟨f', h1, h2, _⟩ => by omega⟩⟩
      case round =>
        obtain ⟨f, hkf, hf1, hf7, rfl, hgq, hTq⟩ := hrel
        have HKF := Lib.hid hkf; clear hkf
        by_cases hf : f ≤ 6
        · by_cases hal : allowed s.toList f = true
          · have hnot : ¬ ((S (ky f f s) ∨ RelSeen seen (ky f f s)) ∨ ∃ f' : Int, 1 ≤ f' ∧ f' < f ∧ allowed s.toList f' = true ∧ (ky f f s) = ky f' f' s) := by
              rintro ((h | ⟨e', h1, h2, s', f', h3, _, _, _, h4⟩) | ⟨f', _, h2, _, h4⟩)
              · exact HS.out f s g hsg h
              · have := (ky_inj h4).2.2
                subst this
                exact heN (relEs_key e' e h1 heR (h3.trans HEK.out.symm) ▸ h2)
              · have := (ky_inj h4).1; omega
            obtain ⟨W', hr', hg', hT'⟩ := hTq.put (v := .func (.func 116) #[] #[.pointer (some ⟨pb, 0, none⟩)]) hnot (.inr <| .inr <| .inr <| .inl ⟨f, s, g, hsg, rfl, by omega, by omega, pb, Nat.lt_of_lt_of_le hpl2 hgq.size, rfl, (hT2.stays hgq).2 _ _ HP2.out⟩)
            have HN := Lib.hid (show W2.grownBy W' (some b) ∧ Tab W' b (fun x => (S x ∨ RelSeen seen x) ∨ ∃ f' : Int, 1 ≤ f' ∧ f' < f + 1 ∧ allowed s.toList f' = true ∧ x = ky f' f' s) from ⟨hgq.trans hg', hT'.congr fun k => by
              constructor
              · rintro ((h | ⟨f', h1, h2, h3, h4⟩) | rfl)
                · exact .inl h
                · exact .inr ⟨f', h1, by omega, h3, h4⟩
                · exact .inr ⟨f, hf1, by omega, hal, rfl⟩
              · rintro (h | ⟨f', h1, h2, h3, h4⟩)
                · exact .inl (.inl h)
                · by_cases e : f' = f
                  · subst e; exact .inr h4
                  · exact .inl (.inr ⟨f', h1, by omega, h3, h4⟩)⟩)
            clear hT' hg' hnot hTq hgq
            unfold ky at hr'
            cases h61 : (s.toList == [61]) <;> cases h35 : (s.toList == [35])
            all_goals
              have hff : f = 1 ∨ f = 2 ∨ f = 3 ∨ f = 4 ∨ f = 5 ∨ f = 6 := by omega
              rcases hff with rfl | rfl | rfl | rfl | rfl | rfl
            all_goals first
              | (exfalso; revert hal; simp [allowed, h61, h35]; done)
              | (have HAL := Lib.hid hal
                 clear hal
                 go_wp2_with fail
                 go_roundg (gk - 1)
                 case measure => (have := HKF.out; omega)
                 case rel => exact ⟨_, by have := HKF.out; omega, by omega, by omega, rfl, HN.out.1, HN.out.2⟩)
          · have HN := Lib.hid (show W2.grownBy wr (some b) ∧ Tab wr b (fun x => (S x ∨ RelSeen seen x) ∨ ∃ f' : Int, 1 ≤ f' ∧ f' < f + 1 ∧ allowed s.toList f' = true ∧ x = ky f' f' s) from ⟨hgq, hTq.congr fun k => by
              constructor
              · rintro (h | ⟨f', h1, h2, h3, h4⟩)
                · exact .inl h
                · exact .inr ⟨f', h1, by omega, h3, h4⟩
              · rintro (h | ⟨f', h1, h2, h3, h4⟩)
                · exact .inl h
                · by_cases e : f' = f
                  · subst e; exact absurd h3 hal
                  · exact .inr ⟨f', h1, by omega, h3, h4⟩⟩)
            clear hTq hgq
            cases h61 : (s.toList == [61]) <;> cases h35 : (s.toList == [35])
            all_goals
              have hff : f = 1 ∨ f = 2 ∨ f = 3 ∨ f = 4 ∨ f = 5 ∨ f = 6 := by omega
              rcases hff with rfl | rfl | rfl | rfl | rfl | rfl
            all_goals first
              | (exfalso; apply hal; simp [allowed, h61, h35]; done)
              | (have HAL := Lib.hid hal
                 clear hal
                 go_wp2_with fail
                 go_roundg (gk - 1)
                 case measure => (have := HKF.out; omega)
                 case rel => exact ⟨_, by have := HKF.out; omega, by omega, by omega, rfl, HN.out.1, HN.out.2⟩)
        · obtain rfl : f = 7 := by omega
          have hbk : ∀ k, k < W1.heap.size → k ≠ b → wr.heap[k]? = W1.heap[k]? := fun k hk hne =>
            (hgq.block k (Nat.lt_of_lt_of_le hk hg12.size) (by simpa using hne)).trans (hg12.block k hk (by simpa using hne))
          have hszq := HS1.out
          have hlr : W.heap.size + 1 < W1.heap.size := (Array.getElem?_eq_some_iff.1 HR1.out).1
          have HN := Lib.hid (show wr.heap[W.heap.size + 1]? = some (.mapIter (some W.heap.size) 6 (seen.push e.born) 6) ∧ wr.heap[W.heap.size]? = some (.map relEs 6) ∧ W.grownBy wr (some b) ∧ Tab wr b (fun x => S x ∨ RelSeen (seen.push e.born) x) from
            ⟨(hbk _ hlr (by omega)).trans HR1.out, (hbk _ (by omega) (by omega)).trans HM1.out, hg1.trans (hg12.trans hgq), hTq.congr fun k => by
              constructor
              · rintro ((h | ⟨e', h1, h2, h3⟩) | ⟨f', h1, h2, h3, h4⟩)
                · exact .inl h
                · exact .inr ⟨e', h1, by simp [h2], h3⟩
                · exact .inr ⟨e, heR, by simp, s, f', HEK.out, h1, by omega, h3, h4⟩
              · rintro (h | ⟨e', h1, h2, h3⟩)
                · exact .inl (.inl h)
                · rcases Array.mem_push.1 h2 with h2 | h2
                  · exact .inl (.inr ⟨e', h1, h2, h3⟩)
                  · have : e' = e := relEs_same e' e h1 heR h2
                    subst this
                    obtain ⟨s', f', h4, h5, h6, h7, h8⟩ := h3
                    obtain rfl : s' = s := by simpa using h4.symm.trans HEK.out
                    exact .inr ⟨f', h5, by omega, h7, h8⟩⟩)
          clear hTq hgq hbk hszq hlr
          go_wp2_with fail
          go_roundg ((leftOf relEs (seen.push e.born)).size)
          case measure => exact HSH.out
          case rel => exact ⟨seen.push e.born, rfl, HN.out⟩
end Go.Proofs.Ythcpedonpiihnaa
