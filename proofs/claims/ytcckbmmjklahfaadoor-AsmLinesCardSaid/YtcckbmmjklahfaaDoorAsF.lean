/- The walks of asm's of, register and line. Conditions: the namer's record lies in the world with all its names; the library's table of powers is as it was laid. -/
import Derived.Test.YtcckbmmjklahfaaDoorAsE
import Derived.Test.YtcckbmmjklahfaaDoorAsD
import Derived.Test.YtcckbmmjklahfaaDoorAsS
namespace Go.Proofs.YtcckbmmjklahfaaDoor
set_option linter.all false
open Go.RowKit
namespace As
/-- what of tells -/
theorem of3 (u v : Bool) (a b c op n : Int) : of ⟨3, u, v, a, b, c, op, n⟩ = (3, a, false, v) := rfl
theorem of2 (u v : Bool) (a b c op n : Int) : of ⟨2, u, v, a, b, c, op, n⟩ = (2, 0, u, v) := rfl
theorem of0 (u v : Bool) (a b c op n : Int) : of ⟨0, u, v, a, b, c, op, n⟩ = (0, op, u, v) := rfl
theorem of1 (u v : Bool) (a b c op n : Int) : of ⟨1, u, v, a, b, c, op, n⟩ = (0, op, u, v) := rfl
end As
set_option maxRecDepth 100000 in
theorem of0_any (u v : Bool) (a b c op n : Int) (w : World) :
    Calls Tryd.prog 18 #[.agg #[.int .i64 0, .bool u, .bool v, .int .i64 a, .int .i64 b, .int .i64 c, .int .i64 op, .int .i64 n]] w fun e w' => e = .returned (.agg #[.int .i64 0, .int .i64 op, .bool u, .bool v]) ∧ ∃ g, w' = more w g := by
  go_enter Tryd.func18, Tryd.ntmps18
  go_wp2
  go_returns
  exact ⟨rfl, more_of_below (by repeat' (first | (with_reducible exact Below.refl _ _) | (with_reducible assumption) | (with_reducible refine below_more ?_ ?_ _) | (with_reducible refine below_drewN ?_ _) | (with_reducible refine Below.drew ?_) | (with_reducible refine Below.alloc ?_ ?_ _) | (with_reducible refine Below.setCell ?_ ?_ _) | go_size | (simp [more_size]; done) | (simp [more_size]; omega)))⟩
set_option maxRecDepth 100000 in
theorem of1_any (u v : Bool) (a b c op n : Int) (w : World) :
    Calls Tryd.prog 18 #[.agg #[.int .i64 1, .bool u, .bool v, .int .i64 a, .int .i64 b, .int .i64 c, .int .i64 op, .int .i64 n]] w fun e w' => e = .returned (.agg #[.int .i64 0, .int .i64 op, .bool u, .bool v]) ∧ ∃ g, w' = more w g := by
  go_enter Tryd.func18, Tryd.ntmps18
  go_wp2
  go_returns
  exact ⟨rfl, more_of_below (by repeat' (first | (with_reducible exact Below.refl _ _) | (with_reducible assumption) | (with_reducible refine below_more ?_ ?_ _) | (with_reducible refine below_drewN ?_ _) | (with_reducible refine Below.drew ?_) | (with_reducible refine Below.alloc ?_ ?_ _) | (with_reducible refine Below.setCell ?_ ?_ _) | go_size | (simp [more_size]; done) | (simp [more_size]; omega)))⟩
set_option maxRecDepth 100000 in
theorem of2_any (u v : Bool) (a b c op n : Int) (w : World) :
    Calls Tryd.prog 18 #[.agg #[.int .i64 2, .bool u, .bool v, .int .i64 a, .int .i64 b, .int .i64 c, .int .i64 op, .int .i64 n]] w fun e w' => e = .returned (.agg #[.int .i64 2, .int .i64 0, .bool u, .bool v]) ∧ ∃ g, w' = more w g := by
  go_enter Tryd.func18, Tryd.ntmps18
  go_wp2
  go_returns
  exact ⟨rfl, more_of_below (by repeat' (first | (with_reducible exact Below.refl _ _) | (with_reducible assumption) | (with_reducible refine below_more ?_ ?_ _) | (with_reducible refine below_drewN ?_ _) | (with_reducible refine Below.drew ?_) | (with_reducible refine Below.alloc ?_ ?_ _) | (with_reducible refine Below.setCell ?_ ?_ _) | go_size | (simp [more_size]; done) | (simp [more_size]; omega)))⟩
set_option maxRecDepth 100000 in
theorem of3_any (u v : Bool) (a b c op n : Int) (w : World) :
    Calls Tryd.prog 18 #[.agg #[.int .i64 3, .bool u, .bool v, .int .i64 a, .int .i64 b, .int .i64 c, .int .i64 op, .int .i64 n]] w fun e w' => e = .returned (.agg #[.int .i64 3, .int .i64 a, .bool false, .bool v]) ∧ ∃ g, w' = more w g := by
  go_enter Tryd.func18, Tryd.ntmps18
  go_wp2
  go_returns
  exact ⟨rfl, more_of_below (by repeat' (first | (with_reducible exact Below.refl _ _) | (with_reducible assumption) | (with_reducible refine below_more ?_ ?_ _) | (with_reducible refine below_drewN ?_ _) | (with_reducible refine Below.drew ?_) | (with_reducible refine Below.alloc ?_ ?_ _) | (with_reducible refine Below.setCell ?_ ?_ _) | go_size | (simp [more_size]; done) | (simp [more_size]; omega)))⟩
theorem register_any (n : Int) (h0 : 0 ≤ n) (h1 : n < 16) (w : World) (hg : Ga w) :
    Calls Tryd.prog 19 #[.int .i64 n] w fun e w' => e = .returned (.string ⟨(As.reg n).toArray⟩) ∧ ∃ g, w' = more w g := by
  have H := Lib.hid (fun w hg => itoa_any n (by omega) (by omega) w hg)
  have hl := As.reg_len n h0 h1
  have HR := Lib.hid (show (⟨(As.reg n).toArray⟩ : ByteArray) = ⟨#[82]⟩ ++ ⟨(Lib.itoa n).toArray⟩ from by apply ByteArray.ext; simp [As.reg, ByteArray.data_append])
  have hsz : (⟨(Lib.itoa n).toArray⟩ : ByteArray).size ≤ 3 := by
    have : (As.reg n).length = (Lib.itoa n).length + 1 := by simp [As.reg]
    show (Lib.itoa n).toArray.size ≤ 3
    simp; omega
  rw [HR.out]
  generalize (⟨(Lib.itoa n).toArray⟩ : ByteArray) = S at *
  have HG := Lib.hid hg
  clear hl HR hg h0 h1
  go_enter Tryd.func19, Tryd.ntmps19
  go_wp2_with (go_at_call 20; (with_reducible refine (H.out _ ?_).mono ?_); (focus (exact HG.out)); rintro e w2 ⟨rfl, g, rfl⟩)
  go_ret
  exact ⟨rfl, more_of_below (by repeat' (first | (with_reducible exact Below.refl _ _) | (with_reducible assumption) | (with_reducible refine below_more ?_ ?_ _) | (with_reducible refine below_drewN ?_ _) | (with_reducible refine Below.drew ?_) | (with_reducible refine Below.alloc ?_ ?_ _) | (with_reducible refine Below.setCell ?_ ?_ _) | go_size | (simp [more_size]; done) | (simp [more_size]; omega)))⟩
namespace As
/-- what line tells -/
def LRet (z : Int) (e : Ending) : Prop := ∃ (t : ByteArray) (c : Int), e = .returned (.tuple #[.string t, .int .i64 c]) ∧ ((lineF z = none ∧ t = ⟨#[]⟩ ∧ c = 20) ∨ (lineF z = some t.data.toList ∧ c = 0))
theorem sents_at {S : Shape} {v : Value} (h : (sv S, v) ∈ sents tab) : ∃ i : Nat, v = .int .i64 i ∧ ∃ nm, tab[i]? = some (nm, S) := by
  unfold sents at h
  obtain ⟨p, hp, he⟩ := List.mem_map.1 h
  obtain ⟨x, i⟩ := p
  obtain ⟨h1, h2⟩ := Prod.mk.inj he
  have hx := List.mem_zipIdx' hp
  refine ⟨i, h2.symm, x.1, ?_⟩
  have h3 := sv_inj h1
  rw [List.getElem?_eq_getElem hx.1]
  have hx2 : (tab[i]'hx.1) = x := hx.2.symm
  rw [hx2]
  exact congrArg some (Prod.ext rfl h3)
theorem nents_at {s : List UInt8} {v : Value} (h : (bv s, v) ∈ nents tab) : ∃ i : Nat, v = .int .i64 i ∧ ∃ S, tab[i]? = some (s, S) := by
  unfold nents at h
  obtain ⟨p, hp, he⟩ := List.mem_map.1 h
  obtain ⟨x, i⟩ := p
  obtain ⟨h1, h2⟩ := Prod.mk.inj he
  have hx := List.mem_zipIdx' hp
  refine ⟨i, h2.symm, x.2, ?_⟩
  have h3 := bv_inj h1
  rw [List.getElem?_eq_getElem hx.1]
  have hx2 : (tab[i]'hx.1) = x := hx.2.symm
  rw [hx2]
  exact congrArg some (Prod.ext h3 rfl)
theorem in_sents {i : Nat} {nm : List UInt8} {S : Shape} (h : tab[i]? = some (nm, S)) : (sv S, Value.int .i64 (i : Int)) ∈ sents tab := by
  unfold sents
  refine List.mem_map.2 ⟨((nm, S), i), ?_, rfl⟩
  rw [List.mem_iff_getElem?]
  exact ⟨i, by simp [List.getElem?_zipIdx, h]⟩
theorem in_nents {i : Nat} {nm : List UInt8} {S : Shape} (h : tab[i]? = some (nm, S)) : (bv nm, Value.int .i64 (i : Int)) ∈ nents tab := by
  unfold nents
  refine List.mem_map.2 ⟨((nm, S), i), ?_, rfl⟩
  rw [List.mem_iff_getElem?]
  exact ⟨i, by simp [List.getElem?_zipIdx, h]⟩
/-- what line's first region reads -/
def Rd (w : World) (bN : Nat) (S : Shape) (nm : List UInt8) : Prop :=
  ∃ (b b1 i cap : Nat), bN < w.heap.size ∧ i < 84 ∧ b < w.heap.size ∧ w.cell? ⟨bN, 0, none⟩ = some (.slice (some ⟨b, 0, none⟩) 84 cap) ∧ w.cell? ⟨bN, 2, none⟩ = some (.map (some b1)) ∧
    w.cell? ⟨b, i, none⟩ = some (.string ⟨nm.toArray⟩) ∧ (∀ w', Below w.heap.size w w' → (Instr.lookup 41 (.map (some b1)) (sv S) false).run Tryd.prog w' = .ok (.int .i64 i) w')
theorem Nm.rd {w : World} {base bN b1 b2 : Nat} {vn vs : Value} (h : Nm w base bN b1 b2 vn vs tab) {S : Shape} {nm : List UInt8} (hin : (nm, S) ∈ tab) : Rd w bN S nm := by
  obtain ⟨i, hi, hti, -, hseek⟩ := tab_at hin
  have hcell := fun j v (hj : (#[vn, vs, Value.map (some b1), Value.map (some b2)] : Array Value)[j]? = some v) => by
    have := cell_of_row w bN j _ _ _ h.cells
    rw [hj] at this; exact this
  have ho := h.own1
  have hlen : tab.length = 84 := tab_len
  rcases ho.2 with ⟨rfl, h0⟩ | ⟨g, cap, cur, rfl, h2, h3, h4⟩
  · exfalso
    have := ho.1
    omega
  have hstr : (scells tab)[i]? = some (.string ⟨nm.toArray⟩) := by simp [scells, hti, bv]
  have hcur : w.cell? ⟨g, i, none⟩ = some (.string ⟨nm.toArray⟩) := (Reads.of_owns ho).2.elim (fun h => by obtain ⟨h, _⟩ := h; omega) (fun ⟨b, off, c, hb, _, _, _, hc⟩ => by
    simp only [Value.slice.injEq, Option.some.injEq, Addr.mk.injEq, and_true] at hb
    obtain ⟨⟨rfl, rfl⟩, _⟩ := hb
    have := hc i _ hstr
    rw [Nat.zero_add] at this
    exact this)
  refine ⟨g, b1, i, cap, lt_of h.cells, hi, lt_of h3, by rw [← hlen]; exact hcell 0 _ rfl, hcell 2 _ rfl, hcur, fun w' hb => ?_⟩
  have hfit := tab_fit _ hin
  obtain ⟨kl, hkl⟩ := sv_key S hfit.2.1 hfit.2.2
  have hz : ∀ u : World, (zeroValue 3).run Tryd.prog u = .ok (.int .i64 0) u := fun _ => by kernel_rfl
  rcases map_look shape_law Tryd.underlying41 hz ((h.below hb).map1) hkl (fun x hx => by obtain ⟨y, hy, e⟩ := mem_sents hx; rw [e]; exact sv_key y.2 (tab_fit y hy).2.1 (tab_fit y hy).2.2) false with ⟨hno, _⟩ | ⟨v, hv, hr⟩
  · exact absurd rfl (hno _ (in_sents hti))
  · obtain ⟨j, rfl, nm2, hj⟩ := sents_at hv
    have hj84 : j < 84 := by rw [← hlen]; exact (List.getElem?_eq_some_iff.1 hj).1
    have hs2 := tab_seek ⟨j, hj84⟩
    have h3 : (tab[j]!).2 = S := by simp [hj]
    have h4 : seek (tab[j]!).2 = some j := hs2
    rw [h3, hseek, Option.some.injEq] at h4
    rw [← h4] at hr
    exact hr
end As
set_option maxRecDepth 100000 in
set_option maxHeartbeats 3200000 in
theorem line0_any (z : Int) (u v : Bool) (a b c op : Int) (w : World) (bN : Nat) (NM : ByteArray) (hNM : NM.size ≤ 10) (Ra : ByteArray) (ha : Ra.size ≤ 12) (Ha : Hid (∀ w, Ga w → Calls Tryd.prog 19 #[.int .i64 a] w fun e w2 => e = .returned (.string Ra) ∧ ∃ g, w2 = more w g)) (Rb : ByteArray) (hb : Rb.size ≤ 12) (Hb : Hid (∀ w, Ga w → Calls Tryd.prog 19 #[.int .i64 b] w fun e w2 => e = .returned (.string Rb) ∧ ∃ g, w2 = more w g)) (Rc : ByteArray) (hc : Rc.size ≤ 12) (Hc : Hid (∀ w, Ga w → Calls Tryd.prog 19 #[.int .i64 c] w fun e w2 => e = .returned (.string Rc) ∧ ∃ g, w2 = more w g)) 
    (HD : Hid (∀ w, Calls Tryd.prog 17 #[.int .u32 z] w fun e w' => e = .returned (.tuple #[.agg #[.int .i64 0, .bool u, .bool v, .int .i64 a, .int .i64 b, .int .i64 c, .int .i64 op, .int .i64 0], .int .i64 0]) ∧ ∃ g, w' = more w g))
    (HG : Hid (Ga w)) (hR : As.Rd w bN (0, op, u, v) NM.data.toList) :
    Calls Tryd.prog 8 #[.pointer (some ⟨bN, 0, none⟩), .int .u32 z] w fun e w' => e = .returned (.tuple #[.string (NM ++ ⟨#[32]⟩ ++ Ra ++ ⟨#[44, 32]⟩ ++ Rb ++ ⟨#[44, 32]⟩ ++ Rc), .int .i64 0]) ∧ ∃ g, w' = more w g := by
  obtain ⟨bs, b1, i, cap, x1, x2, x3, x4, x5, x6, x7⟩ := hR
  have hi0 : (0 : Int) ≤ (i : Int) := by omega
  have hi1 : (i : Int) < 84 := by omega
  have x6' : w.cell? ⟨bs, i, none⟩ = some (.string NM) := x6
  have HX := Lib.hid x7
  clear x6 x7 x2
  go_enter Tryd.func8, Tryd.ntmps8
  go_wp2_with (go_at_call 17; (with_reducible refine (HD.out _).mono ?_); rintro e w2 ⟨rfl, g, rfl⟩)
  obtain ⟨bx, hbx⟩ : ∃ bx, bx = w.heap.size + g.o.size := ⟨_, rfl⟩
  have hc : ∀ (j : Nat) (xv : Value), (#[Value.int .i64 0, .bool u, .bool v, .int .i64 a, .int .i64 b, .int .i64 c, .int .i64 op, .int .i64 0] : Array Value)[j]? = some xv → ((more w g).alloc (.cells #[.int .i64 0, .bool u, .bool v, .int .i64 a, .int .i64 b, .int .i64 c, .int .i64 op, .int .i64 0] 33)).cell? ⟨bx, j, none⟩ = some xv := fun j xv h => by
    rw [hbx]
    have := (MapKept.heap_alloc (more w g) (.cells #[.int .i64 0, .bool u, .bool v, .int .i64 a, .int .i64 b, .int .i64 c, .int .i64 op, .int .i64 0] 33 (0, 0))).1
    rw [more_size] at this
    rw [cell_of_row _ _ _ _ _ _ this]; exact h
  have y0 := hc 0 _ rfl
  have y1 := hc 1 _ rfl
  have y2 := hc 2 _ rfl
  have y3 := hc 3 _ rfl
  have y4 := hc 4 _ rfl
  have y5 := hc 5 _ rfl
  have y6 := hc 6 _ rfl
  have y7 := hc 7 _ rfl
  rw [← hbx]
  have ybx : bx < ((more w g).alloc (.cells #[.int .i64 0, .bool u, .bool v, .int .i64 a, .int .i64 b, .int .i64 c, .int .i64 op, .int .i64 0] 33)).heap.size := by rw [As.sz, more_size]; omega
  clear hc hbx
  have HBW : Below w.heap.size w ((more w g).alloc (.cells #[.int .i64 0, .bool u, .bool v, .int .i64 a, .int .i64 b, .int .i64 c, .int .i64 op, .int .i64 0] 33)) := (by repeat' (first | (with_reducible exact Below.refl _ _) | (with_reducible assumption) | (with_reducible refine below_more ?_ ?_ _) | (with_reducible refine below_drewN ?_ _) | (with_reducible refine Below.drew ?_) | (with_reducible refine Below.alloc ?_ ?_ _) | (with_reducible refine Below.setCell ?_ ?_ _) | go_size | (simp [more_size]; done) | (simp [more_size]; omega)))
  generalize ((more w g).alloc (.cells #[.int .i64 0, .bool u, .bool v, .int .i64 a, .int .i64 b, .int .i64 c, .int .i64 op, .int .i64 0] 33)) = W at *
  have z4 := (HBW.cell (p := ⟨bN, 0, none⟩) x1).trans x4
  have z5 := (HBW.cell (p := ⟨bN, 2, none⟩) x1).trans x5
  have z6 := (HBW.cell (p := ⟨bs, i, none⟩) x3).trans x6'
  have yN := Nat.lt_of_lt_of_le x1 HBW.size
  have yb := Nat.lt_of_lt_of_le x3 HBW.size
  have hlk : ∀ g, (Instr.lookup 41 (.map (some b1)) (As.sv (0, op, u, v)) false).run Tryd.prog (more W g) = .ok (.int .i64 i) (more W g) := fun g => HX.out _ (HBW.trans ((below_more (Below.refl _ _) (Nat.le_refl _) g).mono HBW.size))
  unfold As.sv at hlk
  simp only at hlk
  have HGW := Lib.hid (HG.out.below HBW)
  replace HBW := Lib.hid HBW
  clear HX x1 x3 x4 x5 x6'
  refine wp_region_more (by kernel_rfl) (by kernel_rfl) ?_
  repeat (first | go_big_quiet_skip | (go_big_quiet_want; go_big_quiet_op; first | go_big_quiet_on | (apply Exists.intro; refine ⟨fun _ => ?_, ?_⟩; (focus (first | (go_at_call 18; exact mo_in (of0_any _ _ _ _ _ _ _ _)))); go_big_quiet_on)))
  refine wpQuiet_nil ?_
  intro _ hw'
  obtain ⟨gq, rfl⟩ := hw'
  clear hlk z4 z5 z6 yN yb
  have y0' := y0
  go_wp2_with fail
  refine wp_region_more (by kernel_rfl) (by kernel_rfl) ?_
  repeat (first | go_big_quiet_skip | (go_big_quiet_want; go_big_quiet_op; first | go_big_quiet_on | (apply Exists.intro; refine ⟨fun _ => ?_, ?_⟩; (focus (first | (go_at_call 19; exact mo_in2 (Ha.out _ (HGW.out.more _))) | (go_at_call 19; exact mo_in2 (Hb.out _ (HGW.out.more _))) | (go_at_call 19; exact mo_in2 (Hc.out _ (HGW.out.more _))))); go_big_quiet_on)))
  refine wpQuiet_nil ?_
  intro _ hw'
  obtain ⟨gq, rfl⟩ := hw'
  go_wp2
  go_ret2
  exact ⟨rfl, more_of_below (by first | exact below_more (below_more HBW.out HBW.out.size _) (by rw [more_size]; have := HBW.out.size; omega) _ | exact below_more HBW.out HBW.out.size _)⟩
set_option maxRecDepth 100000 in
set_option maxHeartbeats 3200000 in
theorem line1_any (z : Int) (u v : Bool) (a b op n : Int) (w : World) (bN : Nat) (NM : ByteArray) (hNM : NM.size ≤ 10) (Ra : ByteArray) (ha : Ra.size ≤ 12) (Ha : Hid (∀ w, Ga w → Calls Tryd.prog 19 #[.int .i64 a] w fun e w2 => e = .returned (.string Ra) ∧ ∃ g, w2 = more w g)) (Rb : ByteArray) (hb : Rb.size ≤ 12) (Hb : Hid (∀ w, Ga w → Calls Tryd.prog 19 #[.int .i64 b] w fun e w2 => e = .returned (.string Rb) ∧ ∃ g, w2 = more w g)) (Rn : ByteArray) (hn : Rn.size ≤ 12) (Hn : Hid (∀ w, Ga w → Calls Tryd.prog 20 #[.int .i64 n] w fun e w2 => e = .returned (.string Rn) ∧ ∃ g, w2 = more w g)) 
    (HD : Hid (∀ w, Calls Tryd.prog 17 #[.int .u32 z] w fun e w' => e = .returned (.tuple #[.agg #[.int .i64 1, .bool u, .bool v, .int .i64 a, .int .i64 b, .int .i64 0, .int .i64 op, .int .i64 n], .int .i64 0]) ∧ ∃ g, w' = more w g))
    (HG : Hid (Ga w)) (hR : As.Rd w bN (0, op, u, v) NM.data.toList) :
    Calls Tryd.prog 8 #[.pointer (some ⟨bN, 0, none⟩), .int .u32 z] w fun e w' => e = .returned (.tuple #[.string (NM ++ ⟨#[32]⟩ ++ Ra ++ ⟨#[44, 32]⟩ ++ Rb ++ ⟨#[44, 32]⟩ ++ Rn), .int .i64 0]) ∧ ∃ g, w' = more w g := by
  obtain ⟨bs, b1, i, cap, x1, x2, x3, x4, x5, x6, x7⟩ := hR
  have hi0 : (0 : Int) ≤ (i : Int) := by omega
  have hi1 : (i : Int) < 84 := by omega
  have x6' : w.cell? ⟨bs, i, none⟩ = some (.string NM) := x6
  have HX := Lib.hid x7
  clear x6 x7 x2
  go_enter Tryd.func8, Tryd.ntmps8
  go_wp2_with (go_at_call 17; (with_reducible refine (HD.out _).mono ?_); rintro e w2 ⟨rfl, g, rfl⟩)
  obtain ⟨bx, hbx⟩ : ∃ bx, bx = w.heap.size + g.o.size := ⟨_, rfl⟩
  have hc : ∀ (j : Nat) (xv : Value), (#[Value.int .i64 1, .bool u, .bool v, .int .i64 a, .int .i64 b, .int .i64 0, .int .i64 op, .int .i64 n] : Array Value)[j]? = some xv → ((more w g).alloc (.cells #[.int .i64 1, .bool u, .bool v, .int .i64 a, .int .i64 b, .int .i64 0, .int .i64 op, .int .i64 n] 33)).cell? ⟨bx, j, none⟩ = some xv := fun j xv h => by
    rw [hbx]
    have := (MapKept.heap_alloc (more w g) (.cells #[.int .i64 1, .bool u, .bool v, .int .i64 a, .int .i64 b, .int .i64 0, .int .i64 op, .int .i64 n] 33 (0, 0))).1
    rw [more_size] at this
    rw [cell_of_row _ _ _ _ _ _ this]; exact h
  have y0 := hc 0 _ rfl
  have y1 := hc 1 _ rfl
  have y2 := hc 2 _ rfl
  have y3 := hc 3 _ rfl
  have y4 := hc 4 _ rfl
  have y5 := hc 5 _ rfl
  have y6 := hc 6 _ rfl
  have y7 := hc 7 _ rfl
  rw [← hbx]
  have ybx : bx < ((more w g).alloc (.cells #[.int .i64 1, .bool u, .bool v, .int .i64 a, .int .i64 b, .int .i64 0, .int .i64 op, .int .i64 n] 33)).heap.size := by rw [As.sz, more_size]; omega
  clear hc hbx
  have HBW : Below w.heap.size w ((more w g).alloc (.cells #[.int .i64 1, .bool u, .bool v, .int .i64 a, .int .i64 b, .int .i64 0, .int .i64 op, .int .i64 n] 33)) := (by repeat' (first | (with_reducible exact Below.refl _ _) | (with_reducible assumption) | (with_reducible refine below_more ?_ ?_ _) | (with_reducible refine below_drewN ?_ _) | (with_reducible refine Below.drew ?_) | (with_reducible refine Below.alloc ?_ ?_ _) | (with_reducible refine Below.setCell ?_ ?_ _) | go_size | (simp [more_size]; done) | (simp [more_size]; omega)))
  generalize ((more w g).alloc (.cells #[.int .i64 1, .bool u, .bool v, .int .i64 a, .int .i64 b, .int .i64 0, .int .i64 op, .int .i64 n] 33)) = W at *
  have z4 := (HBW.cell (p := ⟨bN, 0, none⟩) x1).trans x4
  have z5 := (HBW.cell (p := ⟨bN, 2, none⟩) x1).trans x5
  have z6 := (HBW.cell (p := ⟨bs, i, none⟩) x3).trans x6'
  have yN := Nat.lt_of_lt_of_le x1 HBW.size
  have yb := Nat.lt_of_lt_of_le x3 HBW.size
  have hlk : ∀ g, (Instr.lookup 41 (.map (some b1)) (As.sv (0, op, u, v)) false).run Tryd.prog (more W g) = .ok (.int .i64 i) (more W g) := fun g => HX.out _ (HBW.trans ((below_more (Below.refl _ _) (Nat.le_refl _) g).mono HBW.size))
  unfold As.sv at hlk
  simp only at hlk
  have HGW := Lib.hid (HG.out.below HBW)
  replace HBW := Lib.hid HBW
  clear HX x1 x3 x4 x5 x6'
  refine wp_region_more (by kernel_rfl) (by kernel_rfl) ?_
  repeat (first | go_big_quiet_skip | (go_big_quiet_want; go_big_quiet_op; first | go_big_quiet_on | (apply Exists.intro; refine ⟨fun _ => ?_, ?_⟩; (focus (first | (go_at_call 18; exact mo_in (of1_any _ _ _ _ _ _ _ _)))); go_big_quiet_on)))
  refine wpQuiet_nil ?_
  intro _ hw'
  obtain ⟨gq, rfl⟩ := hw'
  clear hlk z4 z5 z6 yN yb
  have y0' := y0
  go_wp2_with fail
  refine wp_region_more (by kernel_rfl) (by kernel_rfl) ?_
  repeat (first | go_big_quiet_skip | (go_big_quiet_want; go_big_quiet_op; first | go_big_quiet_on | (apply Exists.intro; refine ⟨fun _ => ?_, ?_⟩; (focus (first | (go_at_call 19; exact mo_in2 (Ha.out _ (HGW.out.more _))) | (go_at_call 19; exact mo_in2 (Hb.out _ (HGW.out.more _))) | (go_at_call 20; exact mo_in2 (Hn.out _ (HGW.out.more _))))); go_big_quiet_on)))
  refine wpQuiet_nil ?_
  intro _ hw'
  obtain ⟨gq, rfl⟩ := hw'
  go_wp2
  go_ret2
  exact ⟨rfl, more_of_below (by first | exact below_more (below_more HBW.out HBW.out.size _) (by rw [more_size]; have := HBW.out.size; omega) _ | exact below_more HBW.out HBW.out.size _)⟩
set_option maxRecDepth 100000 in
set_option maxHeartbeats 3200000 in
theorem line2_any (z : Int) (u v : Bool) (a b n : Int) (w : World) (bN : Nat) (NM : ByteArray) (hNM : NM.size ≤ 10) (Ra : ByteArray) (ha : Ra.size ≤ 12) (Ha : Hid (∀ w, Ga w → Calls Tryd.prog 19 #[.int .i64 a] w fun e w2 => e = .returned (.string Ra) ∧ ∃ g, w2 = more w g)) (Rb : ByteArray) (hb : Rb.size ≤ 12) (Hb : Hid (∀ w, Ga w → Calls Tryd.prog 19 #[.int .i64 b] w fun e w2 => e = .returned (.string Rb) ∧ ∃ g, w2 = more w g)) (Rn : ByteArray) (hn : Rn.size ≤ 12) (Hn : Hid (∀ w, Ga w → Calls Tryd.prog 20 #[.int .i64 n] w fun e w2 => e = .returned (.string Rn) ∧ ∃ g, w2 = more w g)) 
    (HD : Hid (∀ w, Calls Tryd.prog 17 #[.int .u32 z] w fun e w' => e = .returned (.tuple #[.agg #[.int .i64 2, .bool u, .bool v, .int .i64 a, .int .i64 b, .int .i64 0, .int .i64 0, .int .i64 n], .int .i64 0]) ∧ ∃ g, w' = more w g))
    (HG : Hid (Ga w)) (hR : As.Rd w bN (2, 0, u, v) NM.data.toList) :
    Calls Tryd.prog 8 #[.pointer (some ⟨bN, 0, none⟩), .int .u32 z] w fun e w' => e = .returned (.tuple #[.string (NM ++ ⟨#[32]⟩ ++ Ra ++ ⟨#[44, 32]⟩ ++ Rb ++ ⟨#[44, 32]⟩ ++ Rn), .int .i64 0]) ∧ ∃ g, w' = more w g := by
  obtain ⟨bs, b1, i, cap, x1, x2, x3, x4, x5, x6, x7⟩ := hR
  have hi0 : (0 : Int) ≤ (i : Int) := by omega
  have hi1 : (i : Int) < 84 := by omega
  have x6' : w.cell? ⟨bs, i, none⟩ = some (.string NM) := x6
  have HX := Lib.hid x7
  clear x6 x7 x2
  go_enter Tryd.func8, Tryd.ntmps8
  go_wp2_with (go_at_call 17; (with_reducible refine (HD.out _).mono ?_); rintro e w2 ⟨rfl, g, rfl⟩)
  obtain ⟨bx, hbx⟩ : ∃ bx, bx = w.heap.size + g.o.size := ⟨_, rfl⟩
  have hc : ∀ (j : Nat) (xv : Value), (#[Value.int .i64 2, .bool u, .bool v, .int .i64 a, .int .i64 b, .int .i64 0, .int .i64 0, .int .i64 n] : Array Value)[j]? = some xv → ((more w g).alloc (.cells #[.int .i64 2, .bool u, .bool v, .int .i64 a, .int .i64 b, .int .i64 0, .int .i64 0, .int .i64 n] 33)).cell? ⟨bx, j, none⟩ = some xv := fun j xv h => by
    rw [hbx]
    have := (MapKept.heap_alloc (more w g) (.cells #[.int .i64 2, .bool u, .bool v, .int .i64 a, .int .i64 b, .int .i64 0, .int .i64 0, .int .i64 n] 33 (0, 0))).1
    rw [more_size] at this
    rw [cell_of_row _ _ _ _ _ _ this]; exact h
  have y0 := hc 0 _ rfl
  have y1 := hc 1 _ rfl
  have y2 := hc 2 _ rfl
  have y3 := hc 3 _ rfl
  have y4 := hc 4 _ rfl
  have y5 := hc 5 _ rfl
  have y6 := hc 6 _ rfl
  have y7 := hc 7 _ rfl
  rw [← hbx]
  have ybx : bx < ((more w g).alloc (.cells #[.int .i64 2, .bool u, .bool v, .int .i64 a, .int .i64 b, .int .i64 0, .int .i64 0, .int .i64 n] 33)).heap.size := by rw [As.sz, more_size]; omega
  clear hc hbx
  have HBW : Below w.heap.size w ((more w g).alloc (.cells #[.int .i64 2, .bool u, .bool v, .int .i64 a, .int .i64 b, .int .i64 0, .int .i64 0, .int .i64 n] 33)) := (by repeat' (first | (with_reducible exact Below.refl _ _) | (with_reducible assumption) | (with_reducible refine below_more ?_ ?_ _) | (with_reducible refine below_drewN ?_ _) | (with_reducible refine Below.drew ?_) | (with_reducible refine Below.alloc ?_ ?_ _) | (with_reducible refine Below.setCell ?_ ?_ _) | go_size | (simp [more_size]; done) | (simp [more_size]; omega)))
  generalize ((more w g).alloc (.cells #[.int .i64 2, .bool u, .bool v, .int .i64 a, .int .i64 b, .int .i64 0, .int .i64 0, .int .i64 n] 33)) = W at *
  have z4 := (HBW.cell (p := ⟨bN, 0, none⟩) x1).trans x4
  have z5 := (HBW.cell (p := ⟨bN, 2, none⟩) x1).trans x5
  have z6 := (HBW.cell (p := ⟨bs, i, none⟩) x3).trans x6'
  have yN := Nat.lt_of_lt_of_le x1 HBW.size
  have yb := Nat.lt_of_lt_of_le x3 HBW.size
  have hlk : ∀ g, (Instr.lookup 41 (.map (some b1)) (As.sv (2, 0, u, v)) false).run Tryd.prog (more W g) = .ok (.int .i64 i) (more W g) := fun g => HX.out _ (HBW.trans ((below_more (Below.refl _ _) (Nat.le_refl _) g).mono HBW.size))
  unfold As.sv at hlk
  simp only at hlk
  have HGW := Lib.hid (HG.out.below HBW)
  replace HBW := Lib.hid HBW
  clear HX x1 x3 x4 x5 x6'
  refine wp_region_more (by kernel_rfl) (by kernel_rfl) ?_
  repeat (first | go_big_quiet_skip | (go_big_quiet_want; go_big_quiet_op; first | go_big_quiet_on | (apply Exists.intro; refine ⟨fun _ => ?_, ?_⟩; (focus (first | (go_at_call 18; exact mo_in (of2_any _ _ _ _ _ _ _ _)))); go_big_quiet_on)))
  refine wpQuiet_nil ?_
  intro _ hw'
  obtain ⟨gq, rfl⟩ := hw'
  clear hlk z4 z5 z6 yN yb
  have y0' := y0
  go_wp2_with fail
  refine wp_region_more (by kernel_rfl) (by kernel_rfl) ?_
  repeat (first | go_big_quiet_skip | (go_big_quiet_want; go_big_quiet_op; first | go_big_quiet_on | (apply Exists.intro; refine ⟨fun _ => ?_, ?_⟩; (focus (first | (go_at_call 19; exact mo_in2 (Ha.out _ (HGW.out.more _))) | (go_at_call 19; exact mo_in2 (Hb.out _ (HGW.out.more _))) | (go_at_call 20; exact mo_in2 (Hn.out _ (HGW.out.more _))))); go_big_quiet_on)))
  refine wpQuiet_nil ?_
  intro _ hw'
  obtain ⟨gq, rfl⟩ := hw'
  go_wp2
  go_ret2
  exact ⟨rfl, more_of_below (by first | exact below_more (below_more HBW.out HBW.out.size _) (by rw [more_size]; have := HBW.out.size; omega) _ | exact below_more HBW.out HBW.out.size _)⟩
set_option maxRecDepth 100000 in
set_option maxHeartbeats 3200000 in
theorem line3t_any (z : Int) (v : Bool) (a n : Int) (w : World) (bN : Nat) (NM : ByteArray) (hNM : NM.size ≤ 10) (Rn : ByteArray) (hn : Rn.size ≤ 12) (Hn : Hid (∀ w, Ga w → Calls Tryd.prog 20 #[.int .i64 n] w fun e w2 => e = .returned (.string Rn) ∧ ∃ g, w2 = more w g)) 
    (HD : Hid (∀ w, Calls Tryd.prog 17 #[.int .u32 z] w fun e w' => e = .returned (.tuple #[.agg #[.int .i64 3, .bool true, .bool v, .int .i64 a, .int .i64 0, .int .i64 0, .int .i64 0, .int .i64 n], .int .i64 0]) ∧ ∃ g, w' = more w g))
    (HG : Hid (Ga w)) (hR : As.Rd w bN (3, a, false, v) NM.data.toList) :
    Calls Tryd.prog 8 #[.pointer (some ⟨bN, 0, none⟩), .int .u32 z] w fun e w' => e = .returned (.tuple #[.string (NM ++ ⟨#[32]⟩ ++ Rn), .int .i64 0]) ∧ ∃ g, w' = more w g := by
  obtain ⟨bs, b1, i, cap, x1, x2, x3, x4, x5, x6, x7⟩ := hR
  have hi0 : (0 : Int) ≤ (i : Int) := by omega
  have hi1 : (i : Int) < 84 := by omega
  have x6' : w.cell? ⟨bs, i, none⟩ = some (.string NM) := x6
  have HX := Lib.hid x7
  clear x6 x7 x2
  go_enter Tryd.func8, Tryd.ntmps8
  go_wp2_with (go_at_call 17; (with_reducible refine (HD.out _).mono ?_); rintro e w2 ⟨rfl, g, rfl⟩)
  obtain ⟨bx, hbx⟩ : ∃ bx, bx = w.heap.size + g.o.size := ⟨_, rfl⟩
  have hc : ∀ (j : Nat) (xv : Value), (#[Value.int .i64 3, .bool true, .bool v, .int .i64 a, .int .i64 0, .int .i64 0, .int .i64 0, .int .i64 n] : Array Value)[j]? = some xv → ((more w g).alloc (.cells #[.int .i64 3, .bool true, .bool v, .int .i64 a, .int .i64 0, .int .i64 0, .int .i64 0, .int .i64 n] 33)).cell? ⟨bx, j, none⟩ = some xv := fun j xv h => by
    rw [hbx]
    have := (MapKept.heap_alloc (more w g) (.cells #[.int .i64 3, .bool true, .bool v, .int .i64 a, .int .i64 0, .int .i64 0, .int .i64 0, .int .i64 n] 33 (0, 0))).1
    rw [more_size] at this
    rw [cell_of_row _ _ _ _ _ _ this]; exact h
  have y0 := hc 0 _ rfl
  have y1 := hc 1 _ rfl
  have y2 := hc 2 _ rfl
  have y3 := hc 3 _ rfl
  have y4 := hc 4 _ rfl
  have y5 := hc 5 _ rfl
  have y6 := hc 6 _ rfl
  have y7 := hc 7 _ rfl
  rw [← hbx]
  have ybx : bx < ((more w g).alloc (.cells #[.int .i64 3, .bool true, .bool v, .int .i64 a, .int .i64 0, .int .i64 0, .int .i64 0, .int .i64 n] 33)).heap.size := by rw [As.sz, more_size]; omega
  clear hc hbx
  have HBW : Below w.heap.size w ((more w g).alloc (.cells #[.int .i64 3, .bool true, .bool v, .int .i64 a, .int .i64 0, .int .i64 0, .int .i64 0, .int .i64 n] 33)) := (by repeat' (first | (with_reducible exact Below.refl _ _) | (with_reducible assumption) | (with_reducible refine below_more ?_ ?_ _) | (with_reducible refine below_drewN ?_ _) | (with_reducible refine Below.drew ?_) | (with_reducible refine Below.alloc ?_ ?_ _) | (with_reducible refine Below.setCell ?_ ?_ _) | go_size | (simp [more_size]; done) | (simp [more_size]; omega)))
  generalize ((more w g).alloc (.cells #[.int .i64 3, .bool true, .bool v, .int .i64 a, .int .i64 0, .int .i64 0, .int .i64 0, .int .i64 n] 33)) = W at *
  have z4 := (HBW.cell (p := ⟨bN, 0, none⟩) x1).trans x4
  have z5 := (HBW.cell (p := ⟨bN, 2, none⟩) x1).trans x5
  have z6 := (HBW.cell (p := ⟨bs, i, none⟩) x3).trans x6'
  have yN := Nat.lt_of_lt_of_le x1 HBW.size
  have yb := Nat.lt_of_lt_of_le x3 HBW.size
  have hlk : ∀ g, (Instr.lookup 41 (.map (some b1)) (As.sv (3, a, false, v)) false).run Tryd.prog (more W g) = .ok (.int .i64 i) (more W g) := fun g => HX.out _ (HBW.trans ((below_more (Below.refl _ _) (Nat.le_refl _) g).mono HBW.size))
  unfold As.sv at hlk
  simp only at hlk
  have HGW := Lib.hid (HG.out.below HBW)
  replace HBW := Lib.hid HBW
  clear HX x1 x3 x4 x5 x6'
  refine wp_region_more (by kernel_rfl) (by kernel_rfl) ?_
  repeat (first | go_big_quiet_skip | (go_big_quiet_want; go_big_quiet_op; first | go_big_quiet_on | (apply Exists.intro; refine ⟨fun _ => ?_, ?_⟩; (focus (first | (go_at_call 18; exact mo_in (of3_any _ _ _ _ _ _ _ _)))); go_big_quiet_on)))
  refine wpQuiet_nil ?_
  intro _ hw'
  obtain ⟨gq, rfl⟩ := hw'
  clear hlk z4 z5 z6 yN yb
  have y0' := y0
  go_wp2_with fail
  go_wp2_with (first | (go_at_call 20; (with_reducible refine (Hn.out _ (HGW.out.more _)).mono ?_); rintro e w2 ⟨rfl, g2, rfl⟩))
  go_ret2
  exact ⟨rfl, more_of_below (by first | exact below_more (below_more HBW.out HBW.out.size _) (by rw [more_size]; have := HBW.out.size; omega) _ | exact below_more HBW.out HBW.out.size _)⟩
set_option maxRecDepth 100000 in
set_option maxHeartbeats 3200000 in
theorem line3f_any (z : Int) (v : Bool) (a c : Int) (w : World) (bN : Nat) (NM : ByteArray) (hNM : NM.size ≤ 10) (Rc : ByteArray) (hc : Rc.size ≤ 12) (Hc : Hid (∀ w, Ga w → Calls Tryd.prog 19 #[.int .i64 c] w fun e w2 => e = .returned (.string Rc) ∧ ∃ g, w2 = more w g)) 
    (HD : Hid (∀ w, Calls Tryd.prog 17 #[.int .u32 z] w fun e w' => e = .returned (.tuple #[.agg #[.int .i64 3, .bool false, .bool v, .int .i64 a, .int .i64 0, .int .i64 c, .int .i64 0, .int .i64 0], .int .i64 0]) ∧ ∃ g, w' = more w g))
    (HG : Hid (Ga w)) (hR : As.Rd w bN (3, a, false, v) NM.data.toList) :
    Calls Tryd.prog 8 #[.pointer (some ⟨bN, 0, none⟩), .int .u32 z] w fun e w' => e = .returned (.tuple #[.string (NM ++ ⟨#[32]⟩ ++ Rc), .int .i64 0]) ∧ ∃ g, w' = more w g := by
  obtain ⟨bs, b1, i, cap, x1, x2, x3, x4, x5, x6, x7⟩ := hR
  have hi0 : (0 : Int) ≤ (i : Int) := by omega
  have hi1 : (i : Int) < 84 := by omega
  have x6' : w.cell? ⟨bs, i, none⟩ = some (.string NM) := x6
  have HX := Lib.hid x7
  clear x6 x7 x2
  go_enter Tryd.func8, Tryd.ntmps8
  go_wp2_with (go_at_call 17; (with_reducible refine (HD.out _).mono ?_); rintro e w2 ⟨rfl, g, rfl⟩)
  obtain ⟨bx, hbx⟩ : ∃ bx, bx = w.heap.size + g.o.size := ⟨_, rfl⟩
  have hc : ∀ (j : Nat) (xv : Value), (#[Value.int .i64 3, .bool false, .bool v, .int .i64 a, .int .i64 0, .int .i64 c, .int .i64 0, .int .i64 0] : Array Value)[j]? = some xv → ((more w g).alloc (.cells #[.int .i64 3, .bool false, .bool v, .int .i64 a, .int .i64 0, .int .i64 c, .int .i64 0, .int .i64 0] 33)).cell? ⟨bx, j, none⟩ = some xv := fun j xv h => by
    rw [hbx]
    have := (MapKept.heap_alloc (more w g) (.cells #[.int .i64 3, .bool false, .bool v, .int .i64 a, .int .i64 0, .int .i64 c, .int .i64 0, .int .i64 0] 33 (0, 0))).1
    rw [more_size] at this
    rw [cell_of_row _ _ _ _ _ _ this]; exact h
  have y0 := hc 0 _ rfl
  have y1 := hc 1 _ rfl
  have y2 := hc 2 _ rfl
  have y3 := hc 3 _ rfl
  have y4 := hc 4 _ rfl
  have y5 := hc 5 _ rfl
  have y6 := hc 6 _ rfl
  have y7 := hc 7 _ rfl
  rw [← hbx]
  have ybx : bx < ((more w g).alloc (.cells #[.int .i64 3, .bool false, .bool v, .int .i64 a, .int .i64 0, .int .i64 c, .int .i64 0, .int .i64 0] 33)).heap.size := by rw [As.sz, more_size]; omega
  clear hc hbx
  have HBW : Below w.heap.size w ((more w g).alloc (.cells #[.int .i64 3, .bool false, .bool v, .int .i64 a, .int .i64 0, .int .i64 c, .int .i64 0, .int .i64 0] 33)) := (by repeat' (first | (with_reducible exact Below.refl _ _) | (with_reducible assumption) | (with_reducible refine below_more ?_ ?_ _) | (with_reducible refine below_drewN ?_ _) | (with_reducible refine Below.drew ?_) | (with_reducible refine Below.alloc ?_ ?_ _) | (with_reducible refine Below.setCell ?_ ?_ _) | go_size | (simp [more_size]; done) | (simp [more_size]; omega)))
  generalize ((more w g).alloc (.cells #[.int .i64 3, .bool false, .bool v, .int .i64 a, .int .i64 0, .int .i64 c, .int .i64 0, .int .i64 0] 33)) = W at *
  have z4 := (HBW.cell (p := ⟨bN, 0, none⟩) x1).trans x4
  have z5 := (HBW.cell (p := ⟨bN, 2, none⟩) x1).trans x5
  have z6 := (HBW.cell (p := ⟨bs, i, none⟩) x3).trans x6'
  have yN := Nat.lt_of_lt_of_le x1 HBW.size
  have yb := Nat.lt_of_lt_of_le x3 HBW.size
  have hlk : ∀ g, (Instr.lookup 41 (.map (some b1)) (As.sv (3, a, false, v)) false).run Tryd.prog (more W g) = .ok (.int .i64 i) (more W g) := fun g => HX.out _ (HBW.trans ((below_more (Below.refl _ _) (Nat.le_refl _) g).mono HBW.size))
  unfold As.sv at hlk
  simp only at hlk
  have HGW := Lib.hid (HG.out.below HBW)
  replace HBW := Lib.hid HBW
  clear HX x1 x3 x4 x5 x6'
  refine wp_region_more (by kernel_rfl) (by kernel_rfl) ?_
  repeat (first | go_big_quiet_skip | (go_big_quiet_want; go_big_quiet_op; first | go_big_quiet_on | (apply Exists.intro; refine ⟨fun _ => ?_, ?_⟩; (focus (first | (go_at_call 18; exact mo_in (of3_any _ _ _ _ _ _ _ _)))); go_big_quiet_on)))
  refine wpQuiet_nil ?_
  intro _ hw'
  obtain ⟨gq, rfl⟩ := hw'
  clear hlk z4 z5 z6 yN yb
  have y0' := y0
  go_wp2_with fail
  go_wp2_with (first | (go_at_call 19; (with_reducible refine (Hc.out _ (HGW.out.more _)).mono ?_); rintro e w2 ⟨rfl, g2, rfl⟩))
  go_ret2
  exact ⟨rfl, more_of_below (by first | exact below_more (below_more HBW.out HBW.out.size _) (by rw [more_size]; have := HBW.out.size; omega) _ | exact below_more HBW.out HBW.out.size _)⟩
end Go.Proofs.YtcckbmmjklahfaaDoor
