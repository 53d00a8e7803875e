/- The walk of asm.named: the names are laid in their order. Conditions: the library's table of white space is as it was laid. -/
import Derived.Test.YtcckbmmjklahfaaDoorAsO
import Derived.Test.YtcckbmmjklahfaaDoorAsS


namespace Go.Proofs.YtcckbmmjklahfaaDoor
set_option linter.all false
open Go.RowKit
namespace As
theorem sz (u : World) (o : Obj) : (u.alloc o).heap.size = u.heap.size + 1 := Array.size_push ..
/-- k names are laid; the blocks of L are none of the namer's own -/
def Ns (w : World) (base bc bN b1 b2 k : Nat) (L : List (Nat × Obj)) : Prop :=
  ∃ vn vs, Nm w base bN b1 b2 vn vs (tab.take k) ∧ ∀ p ∈ (bc, Obj.cells #[.pointer (some ⟨bN, 0, none⟩)] 30 (0, 0)) :: L, Apart w bN b1 b2 vn vs p.1 ∧ w.heap[p.1]? = some p.2
theorem Ns.less {w : World} {base bc bN b1 b2 k : Nat} {L L' : List (Nat × Obj)} (h : Ns w base bc bN b1 b2 k L) (hl : ∀ p ∈ L', p ∈ L) : Ns w base bc bN b1 b2 k L' := by
  obtain ⟨vn, vs, h1, h2⟩ := h
  refine ⟨vn, vs, h1, fun p hp => h2 p ?_⟩
  rcases List.mem_cons.1 hp with h | h
  · rw [h]; exact List.mem_cons_self ..
  · exact List.mem_cons_of_mem _ (hl p h)
theorem Ns.at {w : World} {base bc bN b1 b2 k : Nat} {L : List (Nat × Obj)} (h : Ns w base bc bN b1 b2 k L) {b : Nat} {o : Obj} (hb : (b, o) ∈ L) : w.heap[b]? = some o := by
  obtain ⟨vn, vs, h1, h2⟩ := h
  exact (h2 _ (List.mem_cons_of_mem _ hb)).2
theorem Nm.below {w w' : World} {base bN b1 b2 : Nat} {vn vs : Value} {l : List (List UInt8 × Shape)} (h : Nm w base bN b1 b2 vn vs l) (hb : Below w.heap.size w w') : Nm w' base bN b1 b2 vn vs l where
  bN0 := h.bN0
  b10 := h.b10
  b20 := h.b20
  ne := h.ne
  cells := (hb.block _ (lt_of h.cells)).trans h.cells
  own1 := h.own1.kept (row := none) ⟨hb.os, hb.tape, hb.output, hb.size, fun k hk _ => hb.block k hk⟩ (by cases hv : vn.ownBlock <;> simp)
  own2 := h.own2.kept (row := none) ⟨hb.os, hb.tape, hb.output, hb.size, fun k hk _ => hb.block k hk⟩ (by cases hv : vs.ownBlock <;> simp)
  map1 := h.map1.below hb h.map1.lt
  map2 := h.map2.below hb h.map2.lt
theorem Ns.below {w w' : World} {base bc bN b1 b2 k : Nat} {L : List (Nat × Obj)} (h : Ns w base bc bN b1 b2 k L) (hb : Below w.heap.size w w') : Ns w' base bc bN b1 b2 k L := by
  obtain ⟨vn, vs, h1, h2⟩ := h
  refine ⟨vn, vs, h1.below hb, fun p hp => ?_⟩
  obtain ⟨⟨a0, a1⟩, a2⟩ := h2 p hp
  exact ⟨⟨Nat.lt_of_lt_of_le a0 hb.size, a1⟩, (hb.block _ a0).trans a2⟩
theorem own_lt {w : World} {base : Nat} {e : TypeId} {size : Nat} {v : Value} {n : Nat} {xs : List Value} (h : w.ownsRow base e size v n xs) : v.ownBlock ≠ some w.heap.size := by
  intro he
  obtain ⟨cur, hc⟩ := own_obj h he
  have := lt_of hc
  omega
theorem Ns.alloc {w : World} {base bc bN b1 b2 k : Nat} {L : List (Nat × Obj)} (h : Ns w base bc bN b1 b2 k L) (o : Obj) {n : Nat} (hn : n = w.heap.size) : Ns (w.alloc o) base bc bN b1 b2 k ((n, o) :: L) := by
  subst hn
  have hb : Below w.heap.size w (w.alloc o) := (Below.refl _ _).alloc (Nat.le_refl _) o
  have hh := h.below hb
  obtain ⟨vn, vs, h1, h2⟩ := h
  refine ⟨vn, vs, h1.below hb, fun p hp => ?_⟩
  have old : p ∈ (bc, Obj.cells #[.pointer (some ⟨bN, 0, none⟩)] 30 (0, 0)) :: L → Apart (w.alloc o) bN b1 b2 vn vs p.1 ∧ (w.alloc o).heap[p.1]? = some p.2 := fun hp => by
    obtain ⟨⟨a0, a1⟩, a2⟩ := h2 p hp
    exact ⟨⟨Nat.lt_of_lt_of_le a0 hb.size, a1⟩, (hb.block _ a0).trans a2⟩
  rcases List.mem_cons.1 hp with hp | hp
  · exact old (by rw [hp]; exact List.mem_cons_self ..)
  · rcases List.mem_cons.1 hp with hp | hp
    · subst hp
      have q0 := lt_of h1.cells
      have q1 := h1.map1.lt
      have q2 := h1.map2.lt
      exact ⟨⟨by rw [sz]; exact Nat.lt_succ_self _, by simp only; omega, by simp only; omega, by simp only; omega, own_lt h1.own1, own_lt h1.own2⟩, (MapKept.heap_alloc w o).1⟩
    · exact old (List.mem_cons_of_mem _ hp)
theorem tab_new : ∀ i : Fin 84, (∀ x ∈ tab.take i.1, x.1 ≠ (tab[i.1]!).1) ∧ (∀ x ∈ tab.take i.1, x.2 ≠ (tab[i.1]!).2) := by decide +kernel
theorem tab_fit : ∀ x ∈ tab, x.1.length ≤ 10 ∧ (Lit.int .i64 x.2.1).wf = true ∧ (Lit.int .i64 x.2.2.1).wf = true := by decide +kernel
theorem tab_o : ∀ i : Fin 12, ∀ j : Fin 4, tab[4 * i.1 + j.1]? = some (ops.getD i.1 [] ++ mark (j.1 % 2 == 1) (decide (1 < j.1)), ((0 : Int), (i.1 : Int), (j.1 % 2 == 1), decide (1 < j.1))) := by decide +kernel
theorem tab_m : ∀ j : Fin 4, tab[48 + j.1]? = some (mem (j.1 % 2 == 1) (decide (1 < j.1)), ((2 : Int), (0 : Int), (j.1 % 2 == 1), decide (1 < j.1))) := by decide +kernel
theorem tab_c : ∀ i : Fin 16, ∀ v : Bool, tab[52 + 2 * i.1 + (if v then 1 else 0)]? = some (jump v ++ conds.getD i.1 [], ((3 : Int), (i.1 : Int), false, v)) := by decide +kernel
end As
/-- one more name -/
theorem put_at (k : Nat) (s : ByteArray) (s0 s1 : Int) (s2 s3 : Bool) (ht : As.tab[k]? = some (s.data.toList, (s0, s1, s2, s3))) {base bc bN b1 b2 : Nat} {L : List (Nat × Obj)} (w : World) (h : As.Ns w base bc bN b1 b2 k L) :
    Calls Tryd.prog 15 #[.agg #[.int .i64 s0, .int .i64 s1, .bool s2, .bool s3], .string s, .pointer (some ⟨bc, 0, none⟩)] w fun x w' => x = .returned (.tuple #[]) ∧ As.Ns w' base bc bN b1 b2 (k + 1) L ∧ Below base w w' := by
  obtain ⟨vn, vs, h1, h2⟩ := h
  have hk : k < 84 := by
    have := (List.getElem?_eq_some_iff.1 ht).1
    rw [As.tab_len] at this; exact this
  have hget : As.tab[k]! = (s.data.toList, (s0, s1, s2, s3)) := by simp [ht]
  have hmem : (s.data.toList, (s0, s1, s2, s3)) ∈ As.tab := List.mem_of_getElem? ht
  have htake : As.tab.take (k + 1) = As.tab.take k ++ [(s.data.toList, (s0, s1, s2, s3))] := by rw [List.take_succ, ht]; rfl
  have hn := As.tab_new ⟨k, hk⟩
  simp only [hget] at hn
  have hin : ∀ x ∈ As.tab.take k ++ [(s.data.toList, (s0, s1, s2, s3))], x ∈ As.tab := fun x hx => by
    rw [← htake] at hx; exact List.mem_of_mem_take hx
  have hc := h2 _ (List.mem_cons_self ..)
  have hP := nput_any w base bc bN b1 b2 vn vs (As.tab.take k) (s.data.toList, (s0, s1, s2, s3)) h1 (by rw [List.length_take]; omega) hc.2 hn.1 hn.2 (fun x hx => (As.tab_fit x (hin x hx)).1) (fun x hx => (As.tab_fit x (hin x hx)).2)
  have es : As.bv s.data.toList = .string s := by unfold As.bv; simp
  simp only [es] at hP
  refine hP.mono fun x w' ⟨hx, ⟨vn', vs', q1, q2⟩, q3⟩ => ⟨hx, ⟨vn', vs', by rw [htake]; exact q1, fun p hp => ?_⟩, q3.1⟩
  obtain ⟨a1, a2⟩ := h2 p hp
  obtain ⟨a3, a4⟩ := q2 p.1 a1
  exact ⟨a3, a4.trans a2⟩
namespace As
/-- what named leaves -/
def Made (w w' : World) (e : Ending) : Prop := ∃ bN b1 b2 vn vs, e = .returned (.pointer (some ⟨bN, 0, none⟩)) ∧ Nm w' w.heap.size bN b1 b2 vn vs tab
theorem marks_cell (w : World) (b : Nat) (cs : Array Value) (t : TypeId) (h : w.heap[b]? = some (.cells cs t (0, 0))) (j : Nat) (v : Value) (hj : cs[j]? = some v) : w.cell? ⟨b, j, none⟩ = some v := by
  rw [cell_of_row w b j _ _ _ h]; exact hj
theorem ns_new (w : World) (bc bN b1 b2 base : Nat) (e1 : b1 = w.heap.size) (e2 : b2 = w.heap.size + 1) (e3 : bN = w.heap.size + 2) (e4 : bc = w.heap.size + 3) (e5 : base = w.heap.size) :
    Ns ((((w.alloc (.map #[] 0)).alloc (.map #[] 0)).alloc (.cells #[.slice none 0 0, .slice none 0 0, .map (some b1), .map (some b2)] 45 (0, 0))).alloc (.cells #[.pointer (some ⟨bN, 0, none⟩)] 30 (0, 0))) base bc bN b1 b2 0 [] := by
  subst e1 e2 e3 e4 e5
  have z0 : (w.alloc (.map #[] 0)).heap.size = w.heap.size + 1 := sz _ _
  have z1 : ((w.alloc (.map #[] 0)).alloc (.map #[] 0)).heap.size = w.heap.size + 2 := by rw [sz, sz]
  have z2 : (((w.alloc (.map #[] 0)).alloc (.map #[] 0)).alloc (.cells #[.slice none 0 0, .slice none 0 0, .map (some w.heap.size), .map (some (w.heap.size + 1))] 45 (0, 0))).heap.size = w.heap.size + 3 := by rw [sz, sz, sz]
  have up : ∀ (u : World) (o : Obj), Below u.heap.size u (u.alloc o) := fun u o => (Below.refl _ _).alloc (Nat.le_refl _) o
  have m1 : MapIs (w.alloc (.map #[] 0)) w.heap.size [] := mapIs_made w
  have m2 : MapIs ((w.alloc (.map #[] 0)).alloc (.map #[] 0)) (w.heap.size + 1) [] := by have := mapIs_made (w.alloc (.map #[] 0)); rw [z0] at this; exact this
  have c3 := (MapKept.heap_alloc ((w.alloc (.map #[] 0)).alloc (.map #[] 0)) (.cells #[.slice none 0 0, .slice none 0 0, .map (some w.heap.size), .map (some (w.heap.size + 1))] 45 (0, 0))).1
  rw [z1] at c3
  have c4 := (MapKept.heap_alloc (((w.alloc (.map #[] 0)).alloc (.map #[] 0)).alloc (.cells #[.slice none 0 0, .slice none 0 0, .map (some w.heap.size), .map (some (w.heap.size + 1))] 45 (0, 0))) (.cells #[.pointer (some ⟨w.heap.size + 2, 0, none⟩)] 30 (0, 0))).1
  rw [z2] at c4
  refine ⟨.slice none 0 0, .slice none 0 0, ?_, ?_⟩
  · exact {
      bN0 := by omega
      b10 := by omega
      b20 := by omega
      ne := by omega
      cells := ((up _ _).block _ (by rw [z2]; omega)).trans c3
      own1 := by simpa [scells] using World.ownsRow_nil _ _ _ _
      own2 := by simpa [kcells] using World.ownsRow_nil _ _ _ _
      map1 := (((m1.below (up _ _) (by rw [z0]; omega)).below (up _ _) (by rw [z1]; omega)).below (up _ _) (by rw [z2]; omega))
      map2 := ((m2.below (up _ _) (by rw [z1]; omega)).below (up _ _) (by rw [z2]; omega)) }
  · intro p hp
    simp only [List.mem_singleton] at hp
    subst hp
    refine ⟨⟨by rw [sz, z2]; simp, by simp, by simp, by simp, by simp [Value.ownBlock], by simp [Value.ownBlock]⟩, c4⟩
theorem ofNat_mod (j : Nat) : ((j : Int) % 2 == 1) = (j % 2 == 1) := by
  have : j % 2 = 0 ∨ j % 2 = 1 := by omega
  rcases this with h | h
  · have : (j : Int) % 2 = 0 := by omega
    rw [h, this]; rfl
  · have : (j : Int) % 2 = 1 := by omega
    rw [h, this]; rfl
theorem ops_len : ops.length = 12 := rfl
theorem conds_len : conds.length = 16 := rfl
theorem getD_cell (l : List (List UInt8)) (i : Nat) (h : i < l.length) : (scs l)[i]? = some (.string ⟨(l.getD i []).toArray⟩) := by
  rw [scs_at l i h]; simp [List.getD, h]
theorem cat_list (x y : List UInt8) : (⟨x.toArray⟩ ++ ⟨y.toArray⟩ : ByteArray).data.toList = x ++ y := by simp [ByteArray.data_append]
theorem ops_small : ∀ i : Fin 12, (ops.getD i.1 []).length = 3 := by decide
theorem conds_small : ∀ i : Fin 16, (conds.getD i.1 []).length ≤ 2 := by decide
end As
abbrev marksCells : Array Value := #[.string ⟨#[]⟩, .string ⟨#[39]⟩, .string ⟨#[34]⟩, .string ⟨#[39, 34]⟩]
abbrev memsCells : Array Value := #[.string ⟨#[76, 68, 82]⟩, .string ⟨#[83, 84, 82]⟩, .string ⟨#[76, 68, 66]⟩, .string ⟨#[83, 84, 66]⟩]
theorem As.tab_oj (k : Nat) (hk : k < 12) (S : ByteArray) (hS : S.data.toList = As.ops.getD k []) : ∀ j : Nat, j < 4 → ∀ s : ByteArray, s.data.toList = S.data.toList ++ As.mark (j % 2 == 1) (decide (1 < j)) → As.tab[4 * k + j]? = some (s.data.toList, ((0 : Int), (k : Int), (j % 2 == 1), decide (1 < j))) := by
  intro j hj s hs
  rw [hs, hS]
  exact As.tab_o ⟨k, hk⟩ ⟨j, hj⟩
theorem As.tab_mj : ∀ j : Nat, j < 4 → ∀ s : ByteArray, s.data.toList = As.mem (j % 2 == 1) (decide (1 < j)) → As.tab[48 + j]? = some (s.data.toList, ((2 : Int), (0 : Int), (j % 2 == 1), decide (1 < j))) := by
  intro j hj s hs
  rw [hs]
  exact As.tab_m ⟨j, hj⟩
theorem As.tab_cj (k : Nat) (hk : k < 16) (S : ByteArray) (hS : S.data.toList = As.conds.getD k []) : ∀ v : Bool, ∀ s : ByteArray, s.data.toList = As.jump v ++ S.data.toList → As.tab[52 + 2 * k + (if v then 1 else 0)]? = some (s.data.toList, ((3 : Int), (k : Int), false, v)) := by
  intro v s hs
  rw [hs, hS]
  exact As.tab_c ⟨k, hk⟩ v
set_option maxRecDepth 100000 in
set_option maxHeartbeats 3200000 in
theorem named_any (w : World) (hg : Ga w) :
    Calls Tryd.prog 7 #[] w fun e w' => As.Made w w' e ∧ ∃ g, w' = more w g := by
  have HG := Lib.hid hg
  clear hg
  have hmm := @run_makeMap Tryd.prog
  go_enter Tryd.func7, Tryd.ntmps7
  go_wp2_with (go_at_call 16; (with_reducible refine (fields_ops _ ?_).mono ?_); (focus (exact HG.out.below (by repeat' (first | (with_reducible exact Below.refl _ _) | (with_reducible assumption) | (with_reducible refine below_more ?_ ?_ _) | (with_reducible refine below_drewN ?_ _) | (with_reducible refine Below.drew ?_) | (with_reducible refine Below.alloc ?_ ?_ _) | (with_reducible refine Below.setCell ?_ ?_ _) | go_size | (simp [more_size]; done) | (simp [more_size]; omega))))); rintro e w2 ⟨rfl, rfl⟩)
  generalize hW : World.alloc _ _ = W
  have HN := Lib.hid (show As.Ns W w.heap.size (w.heap.size + 1 + 1 + 1) (w.heap.size + 1 + 1) w.heap.size (w.heap.size + 1) (4 * 0) [(w.heap.size + 1 + 1 + 1 + 1, .cells (As.scs As.ops) 9 (0, 0))] ∧ Below w.heap.size w W by
    rw [← hW]
    exact ⟨(As.ns_new w _ _ _ _ _ rfl rfl rfl rfl rfl).alloc _ (by simp [As.sz]), (by repeat' (first | (with_reducible exact Below.refl _ _) | (with_reducible assumption) | (with_reducible refine below_more ?_ ?_ _) | (with_reducible refine below_drewN ?_ _) | (with_reducible refine Below.drew ?_) | (with_reducible refine Below.alloc ?_ ?_ _) | (with_reducible refine Below.setCell ?_ ?_ _) | go_size | (simp [more_size]; done) | (simp [more_size]; omega)))⟩)
  clear hW
  generalize w.heap.size + 1 + 1 + 1 + 1 = bf at *
  generalize w.heap.size + 1 + 1 + 1 = bc at *
  generalize w.heap.size + 1 + 1 = bN at *
  generalize w.heap.size + 1 = b2 at *
  go_loopw [18] (fun i wr => ∃ k : Nat, k ≤ 12 ∧ i = .int .i64 k ∧ Hid (As.Ns wr w.heap.size bc bN w.heap.size b2 (4 * k) [(bf, .cells (As.scs As.ops) 9 (0, 0))] ∧ Below w.heap.size w wr)) (fun i _ => 12 - (intOf i).toNat)
  case atStart => exact ⟨0, by omega, rfl, HN⟩
  case round =>
    obtain ⟨k, hk, rfl, H⟩ := hrel
    clear HN
    by_cases hlt : k < 12
    · have hcell := As.marks_cell wr bf _ _ (H.out.1.at (List.mem_cons_self ..)) k _ (As.getD_cell As.ops k hlt)
      have hsz := As.ops_small ⟨k, hlt⟩
      obtain ⟨S, hS⟩ : ∃ S : ByteArray, S = ⟨(As.ops.getD k []).toArray⟩ := ⟨_, rfl⟩
      have hS3 : S.size = 3 := by rw [hS]; simpa [ByteArray.size] using hsz
      have HT := Lib.hid (As.tab_oj k hlt S (by rw [hS]))
      rw [← hS] at hcell
      clear hS hsz
      go_wp2
      have HM := Lib.hid (show As.Ns (wr.alloc (.cells marksCells 9 (0, 0))) w.heap.size bc bN w.heap.size b2 (4 * k + 0) [(wr.heap.size, .cells marksCells 9 (0, 0)), (bf, .cells (As.scs As.ops) 9 (0, 0))] ∧ Below w.heap.size w (wr.alloc (.cells marksCells 9 (0, 0))) from
        ⟨H.out.1.alloc _ rfl, H.out.2.alloc H.out.2.size _⟩)
      generalize hX : wr.alloc _ = X at *
      clear hX H hcell
      generalize wr.heap.size = bm at *
      rw [show decide ((k : Int) < 12) = true from decide_eq_true (by omega)]
      go_loopw [25] (fun i wr => ∃ j : Nat, j ≤ 4 ∧ i = .int .i64 j ∧ Hid (As.Ns wr w.heap.size bc bN w.heap.size b2 (4 * k + j) [(bm, .cells marksCells 9 (0, 0)), (bf, .cells (As.scs As.ops) 9 (0, 0))] ∧ Below w.heap.size w wr)) (fun i _ => 4 - (intOf i).toNat)
      case atStart => exact ⟨0, by omega, rfl, HM⟩
      case round =>
        obtain ⟨j, hj, rfl, H⟩ := hrel
        clear HM
        have hm0 := fun j v h => As.marks_cell wr bm _ _ (H.out.1.at (List.mem_cons_self ..)) j v h
        by_cases hjl : j < 4
        · have h4 : j = 0 ∨ j = 1 ∨ j = 2 ∨ j = 3 := by omega
          have HT2 := Lib.hid (HT.out j hjl)
          rcases h4 with rfl | rfl | rfl | rfl
          · have hm := hm0 0 _ rfl
            clear hm0
            go_wp2_with (go_at_call 15; (with_reducible refine (put_at _ _ _ _ _ _ ?_ _ H.out.1).mono ?_); (focus (first | exact HT2.out _ rfl | exact HT2.out _ (by simp [ByteArray.data_append, As.mark]))); rintro e w3 ⟨rfl, hN3, hB3⟩)
            refine ⟨⟨1, by omega, rfl, Lib.hid ⟨hN3, H.out.2.trans hB3⟩⟩, by simp [intOf]⟩
          · have hm := hm0 1 _ rfl
            clear hm0
            go_wp2_with (go_at_call 15; (with_reducible refine (put_at _ _ _ _ _ _ ?_ _ H.out.1).mono ?_); (focus (first | exact HT2.out _ rfl | exact HT2.out _ (by simp [ByteArray.data_append, As.mark]))); rintro e w3 ⟨rfl, hN3, hB3⟩)
            refine ⟨⟨2, by omega, rfl, Lib.hid ⟨hN3, H.out.2.trans hB3⟩⟩, by simp [intOf]⟩
          · have hm := hm0 2 _ rfl
            clear hm0
            go_wp2_with (go_at_call 15; (with_reducible refine (put_at _ _ _ _ _ _ ?_ _ H.out.1).mono ?_); (focus (first | exact HT2.out _ rfl | exact HT2.out _ (by simp [ByteArray.data_append, As.mark]))); rintro e w3 ⟨rfl, hN3, hB3⟩)
            refine ⟨⟨3, by omega, rfl, Lib.hid ⟨hN3, H.out.2.trans hB3⟩⟩, by simp [intOf]⟩
          · have hm := hm0 3 _ rfl
            clear hm0
            go_wp2_with (go_at_call 15; (with_reducible refine (put_at _ _ _ _ _ _ ?_ _ H.out.1).mono ?_); (focus (first | exact HT2.out _ rfl | exact HT2.out _ (by simp [ByteArray.data_append, As.mark]))); rintro e w3 ⟨rfl, hN3, hB3⟩)
            refine ⟨⟨4, by omega, rfl, Lib.hid ⟨hN3, H.out.2.trans hB3⟩⟩, by simp [intOf]⟩
        · have hj4 : j = 4 := by omega
          subst hj4
          clear hm0
          go_wp2
          refine ⟨⟨k + 1, by omega, by simp, Lib.hid ⟨H.out.1.less (fun p hp => List.mem_cons_of_mem _ hp), H.out.2⟩⟩, by simp [intOf]; omega⟩
    · have hk12 : k = 12 := by omega
      subst hk12
      go_wp2
      have HM := Lib.hid (show As.Ns (wr.alloc (.cells memsCells 9 (0, 0))) w.heap.size bc bN w.heap.size b2 (48 + 0) [(wr.heap.size, .cells memsCells 9 (0, 0))] ∧ Below w.heap.size w (wr.alloc (.cells memsCells 9 (0, 0))) from
        ⟨(H.out.1.less (L' := []) (fun p hp => by cases hp)).alloc _ rfl, H.out.2.alloc H.out.2.size _⟩)
      generalize hX : wr.alloc _ = X at *
      clear hX H hlt hk
      generalize wr.heap.size = bm at *
      rw [show ((12 : Nat) : Int) = (12 : Int) from rfl]
      go_loopw [46] (fun i wr => ∃ j : Nat, j ≤ 4 ∧ i = .int .i64 j ∧ Hid (As.Ns wr w.heap.size bc bN w.heap.size b2 (48 + j) [(bm, .cells memsCells 9 (0, 0))] ∧ Below w.heap.size w wr)) (fun i _ => 4 - (intOf i).toNat)
      case atStart => exact ⟨0, by omega, rfl, HM⟩
      case round =>
        obtain ⟨j, hj, rfl, H⟩ := hrel
        clear HM
        have hm0 := fun j v h => As.marks_cell wr bm _ _ (H.out.1.at (List.mem_cons_self ..)) j v h
        by_cases hjl : j < 4
        · have h4 : j = 0 ∨ j = 1 ∨ j = 2 ∨ j = 3 := by omega
          have HT2 := Lib.hid (As.tab_mj j hjl)
          rcases h4 with rfl | rfl | rfl | rfl
          · have hm := hm0 0 _ rfl
            clear hm0
            go_wp2_with (go_at_call 15; (with_reducible refine (put_at _ _ _ _ _ _ ?_ _ H.out.1).mono ?_); (focus (exact HT2.out _ rfl)); rintro e w3 ⟨rfl, hN3, hB3⟩)
            refine ⟨⟨1, by omega, rfl, Lib.hid ⟨hN3, H.out.2.trans hB3⟩⟩, by simp [intOf]⟩
          · have hm := hm0 1 _ rfl
            clear hm0
            go_wp2_with (go_at_call 15; (with_reducible refine (put_at _ _ _ _ _ _ ?_ _ H.out.1).mono ?_); (focus (exact HT2.out _ rfl)); rintro e w3 ⟨rfl, hN3, hB3⟩)
            refine ⟨⟨2, by omega, rfl, Lib.hid ⟨hN3, H.out.2.trans hB3⟩⟩, by simp [intOf]⟩
          · have hm := hm0 2 _ rfl
            clear hm0
            go_wp2_with (go_at_call 15; (with_reducible refine (put_at _ _ _ _ _ _ ?_ _ H.out.1).mono ?_); (focus (exact HT2.out _ rfl)); rintro e w3 ⟨rfl, hN3, hB3⟩)
            refine ⟨⟨3, by omega, rfl, Lib.hid ⟨hN3, H.out.2.trans hB3⟩⟩, by simp [intOf]⟩
          · have hm := hm0 3 _ rfl
            clear hm0
            go_wp2_with (go_at_call 15; (with_reducible refine (put_at _ _ _ _ _ _ ?_ _ H.out.1).mono ?_); (focus (exact HT2.out _ rfl)); rintro e w3 ⟨rfl, hN3, hB3⟩)
            refine ⟨⟨4, by omega, rfl, Lib.hid ⟨hN3, H.out.2.trans hB3⟩⟩, by simp [intOf]⟩
        · have hj4 : j = 4 := by omega
          subst hj4
          clear hm0 hjl hj
          go_wp2_with (go_at_call 16; (with_reducible refine (fields_conds _ ?_).mono ?_); (focus (exact HG.out.below (H.out.2))); rintro e w2 ⟨rfl, rfl⟩)
          have HM := Lib.hid (show As.Ns (wr.alloc (.cells (As.scs As.conds) 9 (0, 0))) w.heap.size bc bN w.heap.size b2 (52 + 2 * 0) [(wr.heap.size, .cells (As.scs As.conds) 9 (0, 0))] ∧ Below w.heap.size w (wr.alloc (.cells (As.scs As.conds) 9 (0, 0))) from
            ⟨(H.out.1.less (L' := []) (fun p hp => by cases hp)).alloc _ rfl, H.out.2.alloc H.out.2.size _⟩)
          generalize hX : wr.alloc _ = X at *
          clear hX H
          generalize wr.heap.size = bf at *
          go_loopw [63] (fun i wr => ∃ k : Nat, k ≤ 16 ∧ i = .int .i64 k ∧ Hid (As.Ns wr w.heap.size bc bN w.heap.size b2 (52 + 2 * k) [(bf, .cells (As.scs As.conds) 9 (0, 0))] ∧ Below w.heap.size w wr)) (fun i _ => 16 - (intOf i).toNat)
          case atStart => exact ⟨0, by omega, rfl, HM⟩
          case round =>
            obtain ⟨k, hk, rfl, H⟩ := hrel
            clear HM
            by_cases hlt : k < 16
            · have hcell := As.marks_cell wr bf _ _ (H.out.1.at (List.mem_cons_self ..)) k _ (As.getD_cell As.conds k hlt)
              have hsz := As.conds_small ⟨k, hlt⟩
              obtain ⟨S, hS⟩ : ∃ S : ByteArray, S = ⟨(As.conds.getD k []).toArray⟩ := ⟨_, rfl⟩
              have hS3 : S.size ≤ 2 := by rw [hS]; simpa [ByteArray.size] using hsz
              have HT := Lib.hid (As.tab_cj k hlt S (by rw [hS]))
              rw [← hS] at hcell
              clear hS hsz
              have hcell3 : ∀ w3, As.Ns w3 w.heap.size bc bN w.heap.size b2 (52 + 2 * k + 1) [(bf, .cells (As.scs As.conds) 9 (0, 0))] → w3.cell? ⟨bf, k, none⟩ = wr.cell? ⟨bf, k, none⟩ := fun w3 h => by
                rw [As.marks_cell w3 bf _ _ (h.at (List.mem_cons_self ..)) k _ (As.getD_cell As.conds k hlt), As.marks_cell wr bf _ _ (H.out.1.at (List.mem_cons_self ..)) k _ (As.getD_cell As.conds k hlt)]
              replace hcell3 := Lib.hid hcell3
              go_wp2_with (go_at_call 15; (with_reducible refine (put_at _ _ _ _ _ _ ?_ _ H.out.1).mono ?_); (focus (exact HT.out false _ rfl)); rintro e w3 ⟨rfl, hN3, hB3⟩)
              have hN3' := Lib.hid hN3
              refine (put_at _ _ _ _ _ _ (HT.out true _ rfl) _ hN3'.out).mono ?_
              rintro e w4 ⟨rfl, hN4, hB4⟩
              go_wp2
              refine ⟨⟨k + 1, by omega, by simp, Lib.hid ⟨hN4, (H.out.2.trans hB3).trans hB4⟩⟩, by simp [intOf]; omega⟩
            · have hk16 : k = 16 := by omega
              subst hk16
              have hbc := (show w.heap.size ≤ wr.heap.size from H.out.2.size)
              obtain ⟨vn, vs, q1, q2⟩ := H.out.1
              have hptr := As.marks_cell wr bc _ _ (q2 _ (List.mem_cons_self ..)).2 0 _ rfl
              have HQ := Lib.hid q1
              have HB := Lib.hid H.out.2
              clear q1 q2 H hlt hk
              go_wp2
              go_ret
              refine ⟨⟨bN, w.heap.size, b2, vn, vs, rfl, ?_⟩, more_of_below HB.out⟩
              have := HQ.out
              rw [show 52 + 2 * 16 = 84 from rfl, List.take_of_length_le (by rw [As.tab_len]; decide)] at this
              exact this
end Go.Proofs.YtcckbmmjklahfaaDoor
