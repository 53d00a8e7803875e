/- The walk of the closure that lays one more name. Conditions: the name and the shape are new. -/
import Derived.Test.YtcckbmmjklahfaaDoorAsN
import Derived.BigQuiet
namespace Go.Proofs.YtcckbmmjklahfaaDoor
set_option linter.all false
open Go.RowKit
theorem As.owns_blk {w w' : World} {base : Nat} {e : TypeId} {size : Nat} {v : Value} {n : Nat} {xs : List Value} (h : w.ownsRow base e size v n xs) (hk : ∀ g, v.ownBlock = some g → w'.heap[g]? = w.heap[g]?) : w'.ownsRow base e size v n xs := by
  refine ⟨h.1, ?_⟩
  rcases h.2 with h | ⟨g, cap, cur, rfl, h2, h3, h4⟩
  · exact .inl h
  · exact .inr ⟨g, cap, cur, rfl, h2, (hk g rfl).trans h3, h4⟩
set_option maxRecDepth 100000 in
set_option maxHeartbeats 1600000 in
theorem nput_any (w : World) (base bc bN b1 b2 : Nat) (vn vs : Value) (l : List (List UInt8 × As.Shape)) (e : List UInt8 × As.Shape) (h : As.Nm w base bN b1 b2 vn vs l) (hlen : l.length < 100)
    (hbc : w.heap[bc]? = some (.cells #[.pointer (some ⟨bN, 0, none⟩)] 30 (0, 0)))
    (n1 : ∀ x ∈ l, x.1 ≠ e.1) (n2 : ∀ x ∈ l, x.2 ≠ e.2) (f1 : ∀ x ∈ l ++ [e], x.1.length ≤ 10) (f2 : ∀ x ∈ l ++ [e], (Lit.int .i64 x.2.1).wf = true ∧ (Lit.int .i64 x.2.2.1).wf = true) :
    Calls Tryd.prog 15 #[As.sv e.2, As.bv e.1, .pointer (some ⟨bc, 0, none⟩)] w fun x w' => x = .returned (.tuple #[]) ∧ (∃ vn' vs', As.Nm w' base bN b1 b2 vn' vs' (l ++ [e]) ∧ ∀ k, As.Apart w bN b1 b2 vn vs k → As.Apart w' bN b1 b2 vn' vs' k ∧ w'.heap[k]? = w.heap[k]?) ∧ Below base w w' ∧ w'.heap[bc]? = w.heap[bc]? := by
  obtain ⟨an, cn, rfl⟩ := As.owns_form h.own1
  obtain ⟨as_, cs, rfl⟩ := As.owns_form h.own2
  obtain ⟨k1, hk1⟩ := sv_key e.2 (f2 e (by simp)).1 (f2 e (by simp)).2
  obtain ⟨k2, hk2⟩ := bv_key e.1 (by have := f1 e (by simp); unfold maxLen; omega)
  have hbcN : bc ≠ bN := by rintro rfl; rw [h.cells] at hbc; simp at hbc
  have hz : ∀ u : World, (zeroValue 3).run Tryd.prog u = .ok (.int .i64 0) u := fun _ => by kernel_rfl
  have m1 := h.map1
  have m2 := h.map2
  obtain ⟨⟨nm, sh⟩, rfl⟩ : ∃ p : List UInt8 × As.Shape, e = p := ⟨e, rfl⟩
  obtain ⟨s0, s1, s2, s3⟩ := sh
  obtain ⟨W, hW⟩ : ∃ W : World, W = (w.alloc (.cells #[.int .i64 s0, .int .i64 s1, .bool s2, .bool s3] 47)) := ⟨_, rfl⟩
  have hBW : Below w.heap.size w W.drew := by rw [hW]; exact ((Below.refl _ _).alloc (Nat.le_refl _) _).drew
  obtain ⟨st1, Wa, Wb, e1, e2, ma, za, zb, ba, bb, la, lb⟩ := map_put shape_law Tryd.underlying41 hz (m1.below hBW m1.lt) hk1 (fun x hx => by obtain ⟨y, hy, e⟩ := As.mem_sents hx; rw [e]; exact sv_key y.2 (f2 y (List.mem_append_left _ hy)).1 (f2 y (List.mem_append_left _ hy)).2) (fun x hx e => by obtain ⟨y, hy, e'⟩ := As.mem_sents hx; exact n2 y hy (As.sv_inj (e'.symm.trans e))) (.int .i64 (l.length : Int))
  obtain ⟨st2, Wc, Wd, e3, e4, mb, zc, zd, bc', bd, lc, ld⟩ := map_put str_law Tryd.underlying42 hz ((m2.below hBW m2.lt).keep (bb b2 h.ne.symm)) hk2 (fun x hx => by obtain ⟨y, hy, e⟩ := As.mem_nents hx; rw [e]; exact bv_key y.1 (by have := f1 y (List.mem_append_left _ hy); unfold maxLen; omega)) (fun x hx e => by obtain ⟨y, hy, e'⟩ := As.mem_nents hx; exact n1 y hy (As.bv_inj (e'.symm.trans e))) (.int .i64 (l.length : Int))
  have hlt : ∀ {b : Nat} {o : Obj}, w.heap[b]? = some o → b < w.heap.size := fun h => (Array.getElem?_eq_some_iff.1 h).1
  have hblk : ∀ (b : Nat) (o : Obj), W.drew.heap[b]? = some o → b ≠ b1 → b ≠ b2 → W.drew.heap[b]? = some o ∧ Wa.heap[b]? = some o ∧ Wb.heap[b]? = some o ∧ Wc.heap[b]? = some o ∧ Wd.heap[b]? = some o := by
    intro b o h0 h1 h2
    have ea := (ba b h1).trans h0
    have eb := (bb b h1).trans h0
    exact ⟨h0, ea, eb, (bc' b h2).trans eb, (bd b h2).trans eb⟩
  have hN : ∀ b, b = b1 ∨ b = b2 → ∃ es c, w.heap[b]? = some (.map es c) := by
    rintro b (rfl | rfl)
    · obtain ⟨es, c, hh, _⟩ := m1; exact ⟨es, c, hh⟩
    · obtain ⟨es, c, hh, _⟩ := m2; exact ⟨es, c, hh⟩
  have hne : ∀ b o t f, w.heap[b]? = some (.cells o t f) → b ≠ b1 ∧ b ≠ b2 := by
    intro b o t f hb
    constructor
    · rintro rfl; obtain ⟨es, c, hh⟩ := hN b (.inl rfl); rw [hb] at hh; cases hh
    · rintro rfl; obtain ⟨es, c, hh⟩ := hN b (.inr rfl); rw [hb] at hh; cases hh
  have qN := hblk bN _ ((hBW.block bN (hlt h.cells)).trans h.cells) (hne _ _ _ _ h.cells).1 (hne _ _ _ _ h.cells).2
  have qc := hblk bc _ ((hBW.block bc (hlt hbc)).trans hbc) (hne _ _ _ _ hbc).1 (hne _ _ _ _ hbc).2
  have hs' : W.drew.heap[w.heap.size]? = some (.cells #[.int .i64 s0, .int .i64 s1, .bool s2, .bool s3] 47 (0, 0)) := by rw [hW]; exact (MapKept.heap_alloc w _).1
  have qs := hblk w.heap.size _ hs' (by have := m1.lt; omega) (by have := m2.lt; omega)
  have ce : ∀ (X : World) (b : Nat) (cs : Array Value) (t : TypeId) (f : Nat × Nat), X.heap[b]? = some (.cells cs t f) → ∀ j v, cs[j]? = some v → X.cell? ⟨b, j, none⟩ = some v := by
    intro X b cs t f hX j v hj
    rw [cell_of_row X b j cs t f hX]; exact hj
  obtain ⟨pN0, pNa, pNb, pNc, pNd⟩ := qN
  obtain ⟨pc0, pca, pcb, pcc, pcd⟩ := qc
  obtain ⟨ps0, psa, psb, psc, psd⟩ := qs
  have SS : ∀ X : World, X.heap[bN]? = some (.cells #[.slice an l.length cn, .slice as_ l.length cs, .map (some b1), .map (some b2)] 45 (0, 0)) → X.heap[bc]? = some (.cells #[.pointer (some ⟨bN, 0, none⟩)] 30 (0, 0)) → X.heap[w.heap.size]? = some (.cells #[.int .i64 s0, .int .i64 s1, .bool s2, .bool s3] 47 (0, 0)) →
      (X.cell? ⟨bc, 0, none⟩ = some (.pointer (some ⟨bN, 0, none⟩)) ∧ X.cell? ⟨bN, 0, none⟩ = some (.slice an l.length cn) ∧ X.cell? ⟨bN, 1, none⟩ = some (.slice as_ l.length cs) ∧ X.cell? ⟨bN, 2, none⟩ = some (.map (some b1)) ∧ X.cell? ⟨bN, 3, none⟩ = some (.map (some b2)) ∧
       X.cell? ⟨w.heap.size, 0, none⟩ = some (.int .i64 s0) ∧ X.cell? ⟨w.heap.size, 1, none⟩ = some (.int .i64 s1) ∧ X.cell? ⟨w.heap.size, 2, none⟩ = some (.bool s2) ∧ X.cell? ⟨w.heap.size, 3, none⟩ = some (.bool s3)) := by
    intro X h1 h2 h3
    exact ⟨ce X _ _ _ _ h2 0 _ rfl, ce X _ _ _ _ h1 0 _ rfl, ce X _ _ _ _ h1 1 _ rfl, ce X _ _ _ _ h1 2 _ rfl, ce X _ _ _ _ h1 3 _ rfl, ce X _ _ _ _ h3 0 _ rfl, ce X _ _ _ _ h3 1 _ rfl, ce X _ _ _ _ h3 2 _ rfl, ce X _ _ _ _ h3 3 _ rfl⟩
  have S0 := SS _ pN0 pc0 ps0
  have Sa := SS _ pNa pca psa
  have Sb := SS _ pNb pcb psb
  have Sc := SS _ pNc pcc psc
  have Sd := SS _ pNd pcd psd
  have hl0 : (0 : Int) ≤ l.length := by omega
  have hl1 : (l.length : Int) < 100 := by omega
  unfold As.sv at e1
  unfold As.bv at e3
  simp only at e1 e3
  have HH := Lib.hid (And.intro h (And.intro hbc (And.intro ma (And.intro mb hBW))))
  have HB := Lib.hid (And.intro ba (And.intro bb (And.intro bc' (And.intro bd (And.intro la (And.intro lb (And.intro lc ld)))))))
  have HI := Lib.hid (show As.I2 w Wd.drew (Value.slice an l.length cn).ownBlock (Value.slice as_ l.length cs).ownBlock base bc bN b1 b2 w.heap.size (.slice an l.length cn) (.slice as_ l.length cs) #[.int .i64 s0, .int .i64 s1, .bool s2, .bool s3] (.slice an l.length cn) (.slice as_ l.length cs) l.length l.length (As.scells l) (As.kcells l) (As.sents l ++ [(As.sv (s0, s1, s2, s3), .int .i64 (l.length : Int))]) (As.nents l ++ [(As.bv nm, .int .i64 (l.length : Int))]) from
    { own1 := As.owns_blk h.own1 (fun g hg => by
        obtain ⟨cur, hcur⟩ := As.own_obj h.own1 hg
        have := hblk g _ ((hBW.block g (hlt hcur)).trans hcur) (hne _ _ _ _ hcur).1 (hne _ _ _ _ hcur).2
        exact this.2.2.2.2.trans hcur.symm)
      own2 := As.owns_blk h.own2 (fun g hg => by
        obtain ⟨cur, hcur⟩ := As.own_obj h.own2 hg
        have := hblk g _ ((hBW.block g (hlt hcur)).trans hcur) (hne _ _ _ _ hcur).1 (hne _ _ _ _ hcur).2
        exact this.2.2.2.2.trans hcur.symm)
      cN := pNd, cc := pcd, cs := psd
      mp1 := ma.keep (bd b1 h.ne)
      mp2 := mb
      bel := (((hBW.mono (by have := m1.lt; have := h.b10; omega)).trans (lb base h.b10)).trans (ld base h.b20)).drew
      hs := by
        have e1 : Wd.drew.heap.size = Wb.heap.size := zd
        have e2 : w.heap.size ≤ W.drew.heap.size := hBW.size
        have := m1.lt; have := h.b10; omega
      ne2 := fun he => by have := h.own2.lt _ he; omega
      ob1 := .inl rfl
      ob2 := .inl rfl
      fr := fun k hk q1 q2 q3 q4 q5 => by
        have e0 : W.drew.heap[k]? = w.heap[k]? := hBW.block k hk
        show Wd.heap[k]? = _
        exact (bd k q3).trans ((bb k q2).trans e0)
      ws := by
        have e1 : Wd.drew.heap.size = Wb.heap.size := zd
        have e2 : w.heap.size ≤ W.drew.heap.size := hBW.size
        have e3 : Wb.heap.size = W.drew.heap.size := zb
        omega })
  have HN := Lib.hid (show bc ≠ bN ∧ w.heap.size ≠ bN ∧ base ≤ bN ∧ b1 ≠ bN ∧ b2 ≠ bN from ⟨hbcN, by have := hlt h.cells; omega, h.bN0, (hne _ _ _ _ h.cells).1.symm, (hne _ _ _ _ h.cells).2.symm⟩)
  clear h hbc ma mb ba bb bc' bd la lb lc ld pN0 pNa pNb pNc pNd pc0 pca pcb pcc pcd ps0 psa psb psc psd SS ce hne hN hblk hs' hlt hk1 hk2 hz m1 m2 n1 n2 f1 f2 hlen hBW
  unfold As.sv As.bv
  simp only
  go_enter Tryd.func15, Tryd.ntmps15
  go_wp2_with fail
  rw [← hW]
  clear hW
  go_region_held3 (fun X => X.cell? ⟨bc, 0, none⟩ = some (.pointer (some ⟨bN, 0, none⟩)) ∧ X.cell? ⟨bN, 0, none⟩ = some (.slice an l.length cn) ∧ X.cell? ⟨bN, 1, none⟩ = some (.slice as_ l.length cs) ∧ X.cell? ⟨bN, 2, none⟩ = some (.map (some b1)) ∧ X.cell? ⟨bN, 3, none⟩ = some (.map (some b2)) ∧
       X.cell? ⟨w.heap.size, 0, none⟩ = some (.int .i64 s0) ∧ X.cell? ⟨w.heap.size, 1, none⟩ = some (.int .i64 s1) ∧ X.cell? ⟨w.heap.size, 2, none⟩ = some (.bool s2) ∧ X.cell? ⟨w.heap.size, 3, none⟩ = some (.bool s3)) ((simp [go_sem, *]; done)) (fail)
  --REGION2
  clear S0 Sa Sb Sc Sd e1 e2 e3 e4 za zb zc zd
  go_wp2_with fail
  refine wp_region_G (As.S2 bc bN w.heap.size (.slice an l.length cn) (.slice as_ l.length cs) (.int .i64 s0) (.int .i64 s1) (.bool s2) (.bool s3)) 22 (by kernel_rfl) (by kernel_rfl) (HI.out.S2 _) (fun hC hS => ?_)
  refine wpAnyG_take (n := 22) (i := 0) (v := ?v_0) rfl (by kernel_rfl) (by kernel_rfl) (by kernel_rfl) (by kernel_rfl) (As.S2_put (by decide) (by decide)) (fun _ _ _ h => h) hC (Or.inl ⟨by rfl, ?_⟩) hS (fun hC' hS' => ?_)
  rotate_left 1
  · intro X hX
    obtain ⟨x0, x1, x2, x3, x4⟩ := As.star_bc hX
    go_simp
    try with_reducible rfl
  try simp only [Act.put, List.setIfInBounds_toArray, List.set_cons_zero, List.set_cons_succ]
  clear hC hS; have hC := hC'; have hS := hS'; clear hC' hS'
  refine wpAnyG_take (n := 22) (i := 1) (v := ?v_1) rfl (by kernel_rfl) (by kernel_rfl) (by kernel_rfl) (by kernel_rfl) (As.S2_put (by decide) (by decide)) (fun _ _ _ h => h) hC (Or.inl ⟨by rfl, ?_⟩) hS (fun hC' hS' => ?_)
  rotate_left 1
  · intro X hX
    obtain ⟨x0, x1, x2, x3, x4⟩ := As.star_bc hX
    go_simp
    try with_reducible rfl
  try simp only [Act.put, List.setIfInBounds_toArray, List.set_cons_zero, List.set_cons_succ]
  clear hC hS; have hC := hC'; have hS := hS'; clear hC' hS'
  refine wpAnyG_take (n := 22) (i := 2) (v := ?v_2) rfl (by kernel_rfl) (by kernel_rfl) (by kernel_rfl) (by kernel_rfl) (As.S2_put (by decide) (by decide)) (fun _ _ _ h => h) hC (Or.inl ⟨by rfl, ?_⟩) hS (fun hC' hS' => ?_)
  rotate_left 1
  · intro X hX
    obtain ⟨x0, x1, x2, x3, x4⟩ := As.star_bc hX
    go_simp
    try with_reducible rfl
  try simp only [Act.put, List.setIfInBounds_toArray, List.set_cons_zero, List.set_cons_succ]
  clear hC hS; have hC := hC'; have hS := hS'; clear hC' hS'
  refine wpAnyG_take (n := 22) (i := 3) (v := ?v_3) rfl (by kernel_rfl) (by kernel_rfl) (by kernel_rfl) (by kernel_rfl) (As.S2_put (by decide) (by decide)) (fun _ _ _ h => h) hC (Or.inl ⟨by rfl, ?_⟩) hS (fun hC' hS' => ?_)
  rotate_left 1
  · intro X hX
    go_simp
    try with_reducible rfl
  try simp only [Act.put, List.setIfInBounds_toArray, List.set_cons_zero, List.set_cons_succ]
  clear hC hS; have hC := hC'; have hS := hS'; clear hC' hS'
  refine wpAnyG_take (n := 22) (i := 4) (v := ?v_4) rfl (by kernel_rfl) (by kernel_rfl) (by kernel_rfl) (by kernel_rfl) (As.S2_put (by decide) (by decide)) (fun _ _ _ h => h) hC (Or.inl ⟨by rfl, ?_⟩) hS (fun hC' hS' => ?_)
  rotate_left 1
  · intro X hX
    go_simp
    try with_reducible rfl
  try simp only [Act.put, List.setIfInBounds_toArray, List.set_cons_zero, List.set_cons_succ]
  clear hC hS; have hC := hC'; have hS := hS'; clear hC' hS'
  refine wpAnyG_take (n := 22) (i := 5) (v := ?v_5) rfl (by kernel_rfl) (by kernel_rfl) (by kernel_rfl) (by kernel_rfl) (As.S2_put (by decide) (by decide)) (fun _ _ _ h => h) hC (Or.inl ⟨by rfl, ?_⟩) hS (fun hC' hS' => ?_)
  rotate_left 1
  · intro X hX
    have xn := As.star_f (k := 0) (m := 8) hX (by decide) (by kernel_rfl) (by kernel_rfl) (by kernel_rfl)
    go_simp
    try with_reducible rfl
  try simp only [Act.put, List.setIfInBounds_toArray, List.set_cons_zero, List.set_cons_succ]
  clear hC hS; have hC := hC'; have hS := hS'; clear hC' hS'
  refine wpAnyG_take (n := 22) (i := 6) (v := ?v_6) rfl (by kernel_rfl) (by kernel_rfl) (by kernel_rfl) (by kernel_rfl) (As.S2_put (by decide) (by decide)) (fun _ _ _ h => h) hC (Or.inl ⟨by rfl, ?_⟩) hS (fun hC' hS' => ?_)
  rotate_left 1
  · intro X hX
    go_simp
    try with_reducible rfl
  try simp only [Act.put, List.setIfInBounds_toArray, List.set_cons_zero, List.set_cons_succ]
  clear hC hS; have hC := hC'; have hS := hS'; clear hC' hS'
  refine wpAnyG_take (n := 22) (i := 9) (v := ?v_9) rfl (by kernel_rfl) (by kernel_rfl) (by kernel_rfl) (by kernel_rfl) (As.S2_put (by decide) (by decide)) (fun _ _ _ h => h) hC (Or.inl ⟨by rfl, ?_⟩) hS (fun hC' hS' => ?_)
  rotate_left 1
  · intro X hX
    obtain ⟨x0, x1, x2, x3, x4⟩ := As.star_bc hX
    go_simp
    try with_reducible rfl
  try simp only [Act.put, List.setIfInBounds_toArray, List.set_cons_zero, List.set_cons_succ]
  clear hC hS; have hC := hC'; have hS := hS'; clear hC' hS'
  refine wpAnyG_take (n := 22) (i := 10) (v := ?v_10) rfl (by kernel_rfl) (by kernel_rfl) (by kernel_rfl) (by kernel_rfl) (As.S2_put (by decide) (by decide)) (fun _ _ _ h => h) hC (Or.inl ⟨by rfl, ?_⟩) hS (fun hC' hS' => ?_)
  rotate_left 1
  · intro X hX
    go_simp
    try with_reducible rfl
  try simp only [Act.put, List.setIfInBounds_toArray, List.set_cons_zero, List.set_cons_succ]
  clear hC hS; have hC := hC'; have hS := hS'; clear hC' hS'
  refine wpAnyG_take (n := 22) (i := 11) (v := ?v_11) rfl (by kernel_rfl) (by kernel_rfl) (by kernel_rfl) (by kernel_rfl) (As.S2_put (by decide) (by decide)) (fun _ _ _ h => h) hC (Or.inl ⟨by rfl, ?_⟩) hS (fun hC' hS' => ?_)
  rotate_left 1
  · intro X hX
    go_simp
    try with_reducible rfl
  try simp only [Act.put, List.setIfInBounds_toArray, List.set_cons_zero, List.set_cons_succ]
  clear hC hS; have hC := hC'; have hS := hS'; clear hC' hS'
  refine wpAnyG_take (n := 22) (i := 12) (v := ?v_12) rfl (by kernel_rfl) (by kernel_rfl) (by kernel_rfl) (by kernel_rfl) (As.S2_put (by decide) (by decide)) (fun _ _ _ h => h) hC (Or.inl ⟨by rfl, ?_⟩) hS (fun hC' hS' => ?_)
  rotate_left 1
  · intro X hX
    have xn := As.star_g hX (by decide) (by kernel_rfl) (by kernel_rfl)
    go_simp
    try with_reducible rfl
  try simp only [Act.put, List.setIfInBounds_toArray, List.set_cons_zero, List.set_cons_succ]
  clear hC hS; have hC := hC'; have hS := hS'; clear hC' hS'
  refine wpAnyG_take (n := 22) (i := 13) (v := ?v_13) rfl (by kernel_rfl) (by kernel_rfl) (by kernel_rfl) (by kernel_rfl) (As.S2_put (by decide) (by decide)) (fun _ _ _ h => h) hC (Or.inl ⟨by rfl, ?_⟩) hS (fun hC' hS' => ?_)
  rotate_left 1
  · intro X hX
    obtain ⟨x0, x1, x2, x3, x4⟩ := As.star_bc hX
    go_simp
    try with_reducible rfl
  try simp only [Act.put, List.setIfInBounds_toArray, List.set_cons_zero, List.set_cons_succ]
  clear hC hS; have hC := hC'; have hS := hS'; clear hC' hS'
  clear hC
  obtain ⟨i0, hi0, hz0, hz1, hz2⟩ := info_parts info_str
  obtain ⟨j0, hj0, hy0, hy1, hy2⟩ := info_parts info_shape
  refine wpAnyG_ready (rs := [7, 14]) (by kernel_rfl) (by simp) ?_
  refine AllReadyG.cons rfl (fun K hK => ?_) ?_
  ·
    go_simp
    have HI_7 := Lib.hid (HI.out.alloc (.cells #[.string ⟨nm.toArray⟩] 9))
    have HB_7 := Lib.hid (As.at_alloc Wd.drew (.cells #[.string ⟨nm.toArray⟩] 9) (Wd.heap.size) (by first | rfl | (exact Array.size_push ..)))
    refine hK.out _ _ (HI_7.out.S2 _) (fun hS' => ?_)
    clear hK K hS; have hS := hS'; clear hS'
    try simp only [Act.put, List.setIfInBounds_toArray, List.set_cons_zero, List.set_cons_succ]
    refine wpAnyG_ready (rs := [8, 14]) (by kernel_rfl) (by simp) ?_
    refine AllReadyG.cons rfl (fun K hK => ?_) ?_
    ·
      refine (step_append_lies _ rfl (.tmp 34) (.tmp 36) 36 rfl base 9 i0 (.string ⟨#[]⟩) 1 16 Tryd.underlying36 hi0 hz0 hz1 hz2 rfl (by decide) (.slice an l.length cn) l.length (As.scells l) rfl HI_7.out.own1 _ 1 1 [.string ⟨nm.toArray⟩] rfl rfl (As.news_blk HB_7.out) (by intro q hq; simp at hq; subst hq; rfl) (by decide) (by unfold maxLen; omega) (by omega) HI_7.out.hs _ rfl ?_)
      intro g1 cap1 X1 hown1 hgrow1 hg1 hlt1
      have HI_7_8 := Lib.hid (HI_7.out.grow1 hown1 hgrow1 hg1)
      clear hown1 hgrow1 hg1
      refine hK.out _ _ (HI_7_8.out.S2 _) (fun hS' => ?_)
      clear hK K hS; have hS := hS'; clear hS'
      try simp only [Act.put, List.setIfInBounds_toArray, List.set_cons_zero, List.set_cons_succ]
      refine wpAnyG_ready (rs := [14]) (by kernel_rfl) (by simp) ?_
      refine AllReadyG.cons rfl (fun K hK => ?_) ?_
      ·
        go_simp
        have HI_7_8_14 := Lib.hid (HI_7_8.out.alloc (.cells #[.int .i64 s0, .int .i64 s1, .bool s2, .bool s3] 47))
        have HB_7_8_14 := Lib.hid (As.at_alloc X1 (.cells #[.int .i64 s0, .int .i64 s1, .bool s2, .bool s3] 47) (X1.heap.size) (by first | rfl | (exact Array.size_push ..)))
        refine hK.out _ _ (HI_7_8_14.out.S2 _) (fun hS' => ?_)
        clear hK K hS; have hS := hS'; clear hS'
        try simp only [Act.put, List.setIfInBounds_toArray, List.set_cons_zero, List.set_cons_succ]
        refine wpAnyG_ready (rs := [15]) (by kernel_rfl) (by simp) ?_
        refine AllReadyG.cons rfl (fun K hK => ?_) ?_
        ·
          refine (step_append_lies _ rfl (.tmp 41) (.tmp 43) 43 rfl base 47 j0 (.agg #[.int .i64 0, .int .i64 0, .bool false, .bool false]) 4 24 Tryd.underlying43 hj0 hy0 hy1 hy2 rfl (by decide) (.slice as_ l.length cs) l.length (As.kcells l) rfl HI_7_8_14.out.own2 _ 1 1 [.int .i64 s0, .int .i64 s1, .bool s2, .bool s3] rfl rfl (As.news_blk HB_7_8_14.out) (by intro q hq; simp at hq; rcases hq with rfl | rfl | rfl | rfl <;> rfl) (by decide) (by unfold maxLen; omega) (by omega) HI_7_8_14.out.hs _ rfl ?_)
          intro g2 cap2 X2 hown2 hgrow2 hg2 hlt2
          have HI_7_8_14_15 := Lib.hid (HI_7_8_14.out.grow2 hown2 hgrow2 hg2)
          clear hown2 hgrow2 hg2
          refine hK.out _ _ (HI_7_8_14_15.out.S2 _) (fun hS' => ?_)
          clear hK K hS; have hS := hS'; clear hS'
          try simp only [Act.put, List.setIfInBounds_toArray, List.set_cons_zero, List.set_cons_succ]
          obtain ⟨⟨q0, q1⟩, fz0, fz1⟩ := HI_7_8_14_15.out.froz
          have hbX : bN < X2.heap.size := As.lt_of HI_7_8_14_15.out.cN
          refine wpAnyG_take (n := 22) (i := 16) (v := ?v_7_8_14_15_16) rfl (by kernel_rfl) (by kernel_rfl) (by kernel_rfl) (by kernel_rfl) (As.S2_put (by decide) (by decide)) (fun _ _ _ h => h) (closed_all (by kernel_rfl)) (Or.inl ⟨by rfl, ?y_7_8_14_15_16⟩) hS (fun hC' hS' => ?r_7_8_14_15_16)
          case y_7_8_14_15_16 =>
            intro X hX
            go_simp
            try with_reducible rfl
          clear hS hC'; have hS := hS'; clear hS'
          try simp only [Act.put, List.setIfInBounds_toArray, List.set_cons_zero, List.set_cons_succ]
          refine wpAnyG_take (n := 22) (i := 17) (v := ?v_7_8_14_15_17) rfl (by kernel_rfl) (by kernel_rfl) (by kernel_rfl) (by kernel_rfl) (As.S2_put (by decide) (by decide)) (fun _ _ _ h => h) (closed_all (by kernel_rfl)) (Or.inl ⟨by rfl, ?y_7_8_14_15_17⟩) hS (fun hC' hS' => ?r_7_8_14_15_17)
          case y_7_8_14_15_17 =>
            intro X hX
            go_simp
            try with_reducible rfl
          clear hS hC'; have hS := hS'; clear hS'
          try simp only [Act.put, List.setIfInBounds_toArray, List.set_cons_zero, List.set_cons_succ]
          refine wpAnyG_ready (rs := [18]) (by kernel_rfl) (by simp) ?_
          refine AllReadyG.cons rfl (fun K hK => ?_) AllReadyG.nil
          go_simp
          refine hK.out _ _ (HI_7_8_14_15.out.S2a HN.out.1 HN.out.2.1 _ (by kernel_rfl) _) (fun hS' => ?_)
          clear hK K hS; have hS := hS'; clear hS'
          try simp only [Act.put, List.setIfInBounds_toArray, List.set_cons_zero, List.set_cons_succ]
          refine wpAnyG_take (n := 22) (i := 19) (v := ?v_7_8_14_15_19) rfl (by kernel_rfl) (by kernel_rfl) (by kernel_rfl) (by kernel_rfl) (As.S2_put (by decide) (by decide)) (fun _ _ _ h => h) (closed_all (by kernel_rfl)) (Or.inl ⟨by rfl, ?y_7_8_14_15_19⟩) hS (fun hC' hS' => ?r_7_8_14_15_19)
          case y_7_8_14_15_19 =>
            intro X hX
            go_simp
            try with_reducible rfl
          clear hS hC'; have hS := hS'; clear hS'
          try simp only [Act.put, List.setIfInBounds_toArray, List.set_cons_zero, List.set_cons_succ]
          refine wpAnyG_take (n := 22) (i := 20) (v := ?v_7_8_14_15_20) rfl (by kernel_rfl) (by kernel_rfl) (by kernel_rfl) (by kernel_rfl) (As.S2_put (by decide) (by decide)) (fun _ _ _ h => h) (closed_all (by kernel_rfl)) (Or.inl ⟨by rfl, ?y_7_8_14_15_20⟩) hS (fun hC' hS' => ?r_7_8_14_15_20)
          case y_7_8_14_15_20 =>
            intro X hX
            go_simp
            try with_reducible rfl
          clear hS hC'; have hS := hS'; clear hS'
          try simp only [Act.put, List.setIfInBounds_toArray, List.set_cons_zero, List.set_cons_succ]
          refine wpAnyG_ready (rs := [21]) (by kernel_rfl) (by simp) ?_
          refine AllReadyG.cons rfl (fun K hK => ?_) AllReadyG.nil
          go_simp
          refine hK.out _ _ (HI_7_8_14_15.out.S2b HN.out.1 HN.out.2.1 _ (by kernel_rfl) (by kernel_rfl) _ _) (fun hS' => ?_)
          clear hK K hS hS'
          try simp only [Act.put, List.setIfInBounds_toArray, List.set_cons_zero, List.set_cons_succ]
          refine wpAnyG_done (by kernel_rfl) ?_ _
          clear q0 q1 fz0 fz1 hbX
          have HF := Lib.hid (HI_7_8_14_15.out.done HN.out.2.2.1 HN.out.1 HN.out.2.1 HN.out.2.2.2.1 HN.out.2.2.2.2)
          go_wp2_with fail
          go_end0
          exact ⟨rfl, ⟨_, _, HF.out.nm (e := (nm, s0, s1, s2, s3)) HH.out.1, fun k hk => HF.out.apart hk⟩, HF.out.bel, HF.out.cc.trans HH.out.2.1.symm⟩
        exact AllReadyG.nil
      exact AllReadyG.nil
    refine AllReadyG.cons rfl (fun K hK => ?_) ?_
    ·
      go_simp
      have HI_7_14 := Lib.hid (HI_7.out.alloc (.cells #[.int .i64 s0, .int .i64 s1, .bool s2, .bool s3] 47))
      have HB_7_14 := Lib.hid (As.at_alloc (Wd.drew.alloc (.cells #[.string ⟨nm.toArray⟩] 9)) (.cells #[.int .i64 s0, .int .i64 s1, .bool s2, .bool s3] 47) (Wd.heap.size + 1) (by first | rfl | (exact Array.size_push ..)))
      have HO_7_14 := Lib.hid (((MapKept.heap_alloc (Wd.drew.alloc (.cells #[.string ⟨nm.toArray⟩] 9)) (.cells #[.int .i64 s0, .int .i64 s1, .bool s2, .bool s3] 47)).2 _ (As.lt_of HB_7.out)).trans HB_7.out)
      refine hK.out _ _ (HI_7_14.out.S2 _) (fun hS' => ?_)
      clear hK K hS; have hS := hS'; clear hS'
      try simp only [Act.put, List.setIfInBounds_toArray, List.set_cons_zero, List.set_cons_succ]
      refine wpAnyG_ready (rs := [8]) (by kernel_rfl) (by simp) ?_
      refine AllReadyG.cons rfl (fun K hK => ?_) ?_
      ·
        refine (step_append_lies _ rfl (.tmp 34) (.tmp 36) 36 rfl base 9 i0 (.string ⟨#[]⟩) 1 16 Tryd.underlying36 hi0 hz0 hz1 hz2 rfl (by decide) (.slice an l.length cn) l.length (As.scells l) rfl HI_7_14.out.own1 _ 1 1 [.string ⟨nm.toArray⟩] rfl rfl (As.news_blk HO_7_14.out) (by intro q hq; simp at hq; subst hq; rfl) (by decide) (by unfold maxLen; omega) (by omega) HI_7_14.out.hs _ rfl ?_)
        intro g1 cap1 X1 hown1 hgrow1 hg1 hlt1
        have HI_7_14_8 := Lib.hid (HI_7_14.out.grow1 hown1 hgrow1 hg1)
        have HO_7_14_8 := Lib.hid (HI_7_14.out.box HB_7_14.out (by decide) hgrow1)
        clear hown1 hgrow1 hg1
        refine hK.out _ _ (HI_7_14_8.out.S2 _) (fun hS' => ?_)
        clear hK K hS; have hS := hS'; clear hS'
        try simp only [Act.put, List.setIfInBounds_toArray, List.set_cons_zero, List.set_cons_succ]
        refine wpAnyG_ready (rs := [15]) (by kernel_rfl) (by simp) ?_
        refine AllReadyG.cons rfl (fun K hK => ?_) ?_
        ·
          refine (step_append_lies _ rfl (.tmp 41) (.tmp 43) 43 rfl base 47 j0 (.agg #[.int .i64 0, .int .i64 0, .bool false, .bool false]) 4 24 Tryd.underlying43 hj0 hy0 hy1 hy2 rfl (by decide) (.slice as_ l.length cs) l.length (As.kcells l) rfl HI_7_14_8.out.own2 _ 1 1 [.int .i64 s0, .int .i64 s1, .bool s2, .bool s3] rfl rfl (As.news_blk HO_7_14_8.out) (by intro q hq; simp at hq; rcases hq with rfl | rfl | rfl | rfl <;> rfl) (by decide) (by unfold maxLen; omega) (by omega) HI_7_14_8.out.hs _ rfl ?_)
          intro g2 cap2 X2 hown2 hgrow2 hg2 hlt2
          have HI_7_14_8_15 := Lib.hid (HI_7_14_8.out.grow2 hown2 hgrow2 hg2)
          clear hown2 hgrow2 hg2
          refine hK.out _ _ (HI_7_14_8_15.out.S2 _) (fun hS' => ?_)
          clear hK K hS; have hS := hS'; clear hS'
          try simp only [Act.put, List.setIfInBounds_toArray, List.set_cons_zero, List.set_cons_succ]
          obtain ⟨⟨q0, q1⟩, fz0, fz1⟩ := HI_7_14_8_15.out.froz
          have hbX : bN < X2.heap.size := As.lt_of HI_7_14_8_15.out.cN
          refine wpAnyG_take (n := 22) (i := 16) (v := ?v_7_14_8_15_16) rfl (by kernel_rfl) (by kernel_rfl) (by kernel_rfl) (by kernel_rfl) (As.S2_put (by decide) (by decide)) (fun _ _ _ h => h) (closed_all (by kernel_rfl)) (Or.inl ⟨by rfl, ?y_7_14_8_15_16⟩) hS (fun hC' hS' => ?r_7_14_8_15_16)
          case y_7_14_8_15_16 =>
            intro X hX
            go_simp
            try with_reducible rfl
          clear hS hC'; have hS := hS'; clear hS'
          try simp only [Act.put, List.setIfInBounds_toArray, List.set_cons_zero, List.set_cons_succ]
          refine wpAnyG_take (n := 22) (i := 17) (v := ?v_7_14_8_15_17) rfl (by kernel_rfl) (by kernel_rfl) (by kernel_rfl) (by kernel_rfl) (As.S2_put (by decide) (by decide)) (fun _ _ _ h => h) (closed_all (by kernel_rfl)) (Or.inl ⟨by rfl, ?y_7_14_8_15_17⟩) hS (fun hC' hS' => ?r_7_14_8_15_17)
          case y_7_14_8_15_17 =>
            intro X hX
            go_simp
            try with_reducible rfl
          clear hS hC'; have hS := hS'; clear hS'
          try simp only [Act.put, List.setIfInBounds_toArray, List.set_cons_zero, List.set_cons_succ]
          refine wpAnyG_ready (rs := [18]) (by kernel_rfl) (by simp) ?_
          refine AllReadyG.cons rfl (fun K hK => ?_) AllReadyG.nil
          go_simp
          refine hK.out _ _ (HI_7_14_8_15.out.S2a HN.out.1 HN.out.2.1 _ (by kernel_rfl) _) (fun hS' => ?_)
          clear hK K hS; have hS := hS'; clear hS'
          try simp only [Act.put, List.setIfInBounds_toArray, List.set_cons_zero, List.set_cons_succ]
          refine wpAnyG_take (n := 22) (i := 19) (v := ?v_7_14_8_15_19) rfl (by kernel_rfl) (by kernel_rfl) (by kernel_rfl) (by kernel_rfl) (As.S2_put (by decide) (by decide)) (fun _ _ _ h => h) (closed_all (by kernel_rfl)) (Or.inl ⟨by rfl, ?y_7_14_8_15_19⟩) hS (fun hC' hS' => ?r_7_14_8_15_19)
          case y_7_14_8_15_19 =>
            intro X hX
            go_simp
            try with_reducible rfl
          clear hS hC'; have hS := hS'; clear hS'
          try simp only [Act.put, List.setIfInBounds_toArray, List.set_cons_zero, List.set_cons_succ]
          refine wpAnyG_take (n := 22) (i := 20) (v := ?v_7_14_8_15_20) rfl (by kernel_rfl) (by kernel_rfl) (by kernel_rfl) (by kernel_rfl) (As.S2_put (by decide) (by decide)) (fun _ _ _ h => h) (closed_all (by kernel_rfl)) (Or.inl ⟨by rfl, ?y_7_14_8_15_20⟩) hS (fun hC' hS' => ?r_7_14_8_15_20)
          case y_7_14_8_15_20 =>
            intro X hX
            go_simp
            try with_reducible rfl
          clear hS hC'; have hS := hS'; clear hS'
          try simp only [Act.put, List.setIfInBounds_toArray, List.set_cons_zero, List.set_cons_succ]
          refine wpAnyG_ready (rs := [21]) (by kernel_rfl) (by simp) ?_
          refine AllReadyG.cons rfl (fun K hK => ?_) AllReadyG.nil
          go_simp
          refine hK.out _ _ (HI_7_14_8_15.out.S2b HN.out.1 HN.out.2.1 _ (by kernel_rfl) (by kernel_rfl) _ _) (fun hS' => ?_)
          clear hK K hS hS'
          try simp only [Act.put, List.setIfInBounds_toArray, List.set_cons_zero, List.set_cons_succ]
          refine wpAnyG_done (by kernel_rfl) ?_ _
          clear q0 q1 fz0 fz1 hbX
          have HF := Lib.hid (HI_7_14_8_15.out.done HN.out.2.2.1 HN.out.1 HN.out.2.1 HN.out.2.2.2.1 HN.out.2.2.2.2)
          go_wp2_with fail
          go_end0
          exact ⟨rfl, ⟨_, _, HF.out.nm (e := (nm, s0, s1, s2, s3)) HH.out.1, fun k hk => HF.out.apart hk⟩, HF.out.bel, HF.out.cc.trans HH.out.2.1.symm⟩
        exact AllReadyG.nil
      exact AllReadyG.nil
    exact AllReadyG.nil
  refine AllReadyG.cons rfl (fun K hK => ?_) ?_
  ·
    go_simp
    have HI_14 := Lib.hid (HI.out.alloc (.cells #[.int .i64 s0, .int .i64 s1, .bool s2, .bool s3] 47))
    have HB_14 := Lib.hid (As.at_alloc Wd.drew (.cells #[.int .i64 s0, .int .i64 s1, .bool s2, .bool s3] 47) (Wd.heap.size) (by first | rfl | (exact Array.size_push ..)))
    refine hK.out _ _ (HI_14.out.S2 _) (fun hS' => ?_)
    clear hK K hS; have hS := hS'; clear hS'
    try simp only [Act.put, List.setIfInBounds_toArray, List.set_cons_zero, List.set_cons_succ]
    refine wpAnyG_ready (rs := [7]) (by kernel_rfl) (by simp) ?_
    refine AllReadyG.cons rfl (fun K hK => ?_) ?_
    ·
      go_simp
      have HI_14_7 := Lib.hid (HI_14.out.alloc (.cells #[.string ⟨nm.toArray⟩] 9))
      have HB_14_7 := Lib.hid (As.at_alloc (Wd.drew.alloc (.cells #[.int .i64 s0, .int .i64 s1, .bool s2, .bool s3] 47)) (.cells #[.string ⟨nm.toArray⟩] 9) (Wd.heap.size + 1) (by first | rfl | (exact Array.size_push ..)))
      have HO_14_7 := Lib.hid (((MapKept.heap_alloc (Wd.drew.alloc (.cells #[.int .i64 s0, .int .i64 s1, .bool s2, .bool s3] 47)) (.cells #[.string ⟨nm.toArray⟩] 9)).2 _ (As.lt_of HB_14.out)).trans HB_14.out)
      refine hK.out _ _ (HI_14_7.out.S2 _) (fun hS' => ?_)
      clear hK K hS; have hS := hS'; clear hS'
      try simp only [Act.put, List.setIfInBounds_toArray, List.set_cons_zero, List.set_cons_succ]
      refine wpAnyG_ready (rs := [8]) (by kernel_rfl) (by simp) ?_
      refine AllReadyG.cons rfl (fun K hK => ?_) ?_
      ·
        refine (step_append_lies _ rfl (.tmp 34) (.tmp 36) 36 rfl base 9 i0 (.string ⟨#[]⟩) 1 16 Tryd.underlying36 hi0 hz0 hz1 hz2 rfl (by decide) (.slice an l.length cn) l.length (As.scells l) rfl HI_14_7.out.own1 _ 1 1 [.string ⟨nm.toArray⟩] rfl rfl (As.news_blk HB_14_7.out) (by intro q hq; simp at hq; subst hq; rfl) (by decide) (by unfold maxLen; omega) (by omega) HI_14_7.out.hs _ rfl ?_)
        intro g1 cap1 X1 hown1 hgrow1 hg1 hlt1
        have HI_14_7_8 := Lib.hid (HI_14_7.out.grow1 hown1 hgrow1 hg1)
        have HO_14_7_8 := Lib.hid (HI_14_7.out.box HO_14_7.out (by decide) hgrow1)
        clear hown1 hgrow1 hg1
        refine hK.out _ _ (HI_14_7_8.out.S2 _) (fun hS' => ?_)
        clear hK K hS; have hS := hS'; clear hS'
        try simp only [Act.put, List.setIfInBounds_toArray, List.set_cons_zero, List.set_cons_succ]
        refine wpAnyG_ready (rs := [15]) (by kernel_rfl) (by simp) ?_
        refine AllReadyG.cons rfl (fun K hK => ?_) ?_
        ·
          refine (step_append_lies _ rfl (.tmp 41) (.tmp 43) 43 rfl base 47 j0 (.agg #[.int .i64 0, .int .i64 0, .bool false, .bool false]) 4 24 Tryd.underlying43 hj0 hy0 hy1 hy2 rfl (by decide) (.slice as_ l.length cs) l.length (As.kcells l) rfl HI_14_7_8.out.own2 _ 1 1 [.int .i64 s0, .int .i64 s1, .bool s2, .bool s3] rfl rfl (As.news_blk HO_14_7_8.out) (by intro q hq; simp at hq; rcases hq with rfl | rfl | rfl | rfl <;> rfl) (by decide) (by unfold maxLen; omega) (by omega) HI_14_7_8.out.hs _ rfl ?_)
          intro g2 cap2 X2 hown2 hgrow2 hg2 hlt2
          have HI_14_7_8_15 := Lib.hid (HI_14_7_8.out.grow2 hown2 hgrow2 hg2)
          clear hown2 hgrow2 hg2
          refine hK.out _ _ (HI_14_7_8_15.out.S2 _) (fun hS' => ?_)
          clear hK K hS; have hS := hS'; clear hS'
          try simp only [Act.put, List.setIfInBounds_toArray, List.set_cons_zero, List.set_cons_succ]
          obtain ⟨⟨q0, q1⟩, fz0, fz1⟩ := HI_14_7_8_15.out.froz
          have hbX : bN < X2.heap.size := As.lt_of HI_14_7_8_15.out.cN
          refine wpAnyG_take (n := 22) (i := 16) (v := ?v_14_7_8_15_16) rfl (by kernel_rfl) (by kernel_rfl) (by kernel_rfl) (by kernel_rfl) (As.S2_put (by decide) (by decide)) (fun _ _ _ h => h) (closed_all (by kernel_rfl)) (Or.inl ⟨by rfl, ?y_14_7_8_15_16⟩) hS (fun hC' hS' => ?r_14_7_8_15_16)
          case y_14_7_8_15_16 =>
            intro X hX
            go_simp
            try with_reducible rfl
          clear hS hC'; have hS := hS'; clear hS'
          try simp only [Act.put, List.setIfInBounds_toArray, List.set_cons_zero, List.set_cons_succ]
          refine wpAnyG_take (n := 22) (i := 17) (v := ?v_14_7_8_15_17) rfl (by kernel_rfl) (by kernel_rfl) (by kernel_rfl) (by kernel_rfl) (As.S2_put (by decide) (by decide)) (fun _ _ _ h => h) (closed_all (by kernel_rfl)) (Or.inl ⟨by rfl, ?y_14_7_8_15_17⟩) hS (fun hC' hS' => ?r_14_7_8_15_17)
          case y_14_7_8_15_17 =>
            intro X hX
            go_simp
            try with_reducible rfl
          clear hS hC'; have hS := hS'; clear hS'
          try simp only [Act.put, List.setIfInBounds_toArray, List.set_cons_zero, List.set_cons_succ]
          refine wpAnyG_ready (rs := [18]) (by kernel_rfl) (by simp) ?_
          refine AllReadyG.cons rfl (fun K hK => ?_) AllReadyG.nil
          go_simp
          refine hK.out _ _ (HI_14_7_8_15.out.S2a HN.out.1 HN.out.2.1 _ (by kernel_rfl) _) (fun hS' => ?_)
          clear hK K hS; have hS := hS'; clear hS'
          try simp only [Act.put, List.setIfInBounds_toArray, List.set_cons_zero, List.set_cons_succ]
          refine wpAnyG_take (n := 22) (i := 19) (v := ?v_14_7_8_15_19) rfl (by kernel_rfl) (by kernel_rfl) (by kernel_rfl) (by kernel_rfl) (As.S2_put (by decide) (by decide)) (fun _ _ _ h => h) (closed_all (by kernel_rfl)) (Or.inl ⟨by rfl, ?y_14_7_8_15_19⟩) hS (fun hC' hS' => ?r_14_7_8_15_19)
          case y_14_7_8_15_19 =>
            intro X hX
            go_simp
            try with_reducible rfl
          clear hS hC'; have hS := hS'; clear hS'
          try simp only [Act.put, List.setIfInBounds_toArray, List.set_cons_zero, List.set_cons_succ]
          refine wpAnyG_take (n := 22) (i := 20) (v := ?v_14_7_8_15_20) rfl (by kernel_rfl) (by kernel_rfl) (by kernel_rfl) (by kernel_rfl) (As.S2_put (by decide) (by decide)) (fun _ _ _ h => h) (closed_all (by kernel_rfl)) (Or.inl ⟨by rfl, ?y_14_7_8_15_20⟩) hS (fun hC' hS' => ?r_14_7_8_15_20)
          case y_14_7_8_15_20 =>
            intro X hX
            go_simp
            try with_reducible rfl
          clear hS hC'; have hS := hS'; clear hS'
          try simp only [Act.put, List.setIfInBounds_toArray, List.set_cons_zero, List.set_cons_succ]
          refine wpAnyG_ready (rs := [21]) (by kernel_rfl) (by simp) ?_
          refine AllReadyG.cons rfl (fun K hK => ?_) AllReadyG.nil
          go_simp
          refine hK.out _ _ (HI_14_7_8_15.out.S2b HN.out.1 HN.out.2.1 _ (by kernel_rfl) (by kernel_rfl) _ _) (fun hS' => ?_)
          clear hK K hS hS'
          try simp only [Act.put, List.setIfInBounds_toArray, List.set_cons_zero, List.set_cons_succ]
          refine wpAnyG_done (by kernel_rfl) ?_ _
          clear q0 q1 fz0 fz1 hbX
          have HF := Lib.hid (HI_14_7_8_15.out.done HN.out.2.2.1 HN.out.1 HN.out.2.1 HN.out.2.2.2.1 HN.out.2.2.2.2)
          go_wp2_with fail
          go_end0
          exact ⟨rfl, ⟨_, _, HF.out.nm (e := (nm, s0, s1, s2, s3)) HH.out.1, fun k hk => HF.out.apart hk⟩, HF.out.bel, HF.out.cc.trans HH.out.2.1.symm⟩
        exact AllReadyG.nil
      exact AllReadyG.nil
    exact AllReadyG.nil
  exact AllReadyG.nil
end Go.Proofs.YtcckbmmjklahfaaDoor
