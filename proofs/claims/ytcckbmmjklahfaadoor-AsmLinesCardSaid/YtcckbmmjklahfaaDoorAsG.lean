/- The walk of asm's line at every word; asm.operand. Conditions: the namer's record lies in the world with all its names; the library's variables are as they were laid. What the walk of asm's word needs: where a name and its shape stand; lists of operands. Conditions: the namer's record lies in the world with all its names. -/
import Derived.Test.YtcckbmmjklahfaaDoorAsF
import Derived.BigQuiet
import Derived.Deep.QuietTactic
namespace Go.Proofs.YtcckbmmjklahfaaDoor
set_option linter.all false
open Go.RowKit
set_option maxRecDepth 100000 in
set_option maxHeartbeats 1600000 in
theorem line_no (z : Int) (x : As.Ins) (w : World) (bN : Nat)
    (HD : Hid (∀ w, Calls Tryd.prog 17 #[.int .u32 z] w fun e w' => e = .returned (.tuple #[.agg #[.int .i64 0, .bool false, .bool false, .int .i64 0, .int .i64 0, .int .i64 0, .int .i64 0, .int .i64 0], .int .i64 20]) ∧ ∃ g, w' = more w g)) :
    Calls Tryd.prog 8 #[.pointer (some ⟨bN, 0, none⟩), .int .u32 z] w fun e w' => e = .returned (.tuple #[.string ⟨#[]⟩, .int .i64 20]) ∧ ∃ g, w' = more w g := by
  go_enter Tryd.func8, Tryd.ntmps8
  go_wp2_with (go_at_call 17; (with_reducible refine (HD.out _).mono ?_); rintro e w2 ⟨rfl, g, rfl⟩)
  go_ret2
  exact ⟨rfl, more_of_below (by repeat' (first | (with_reducible exact Below.refl _ _) | (with_reducible assumption) | (with_reducible refine below_more ?_ ?_ _) | (with_reducible refine below_drewN ?_ _) | (with_reducible refine Below.drew ?_) | (with_reducible refine Below.alloc ?_ ?_ _) | (with_reducible refine Below.setCell ?_ ?_ _) | go_size | (simp [more_size]; done) | (simp [more_size]; omega)))⟩
namespace As
theorem sz_itoa {n : Int} (h0 : -100000000 < n) (h1 : n < 100000000) : (⟨(Lib.itoa n).toArray⟩ : ByteArray).size ≤ 12 := by
  have := itoa_len n h0 h1
  show (Lib.itoa n).toArray.size ≤ 12
  simp; omega
theorem sz_reg {n : Int} (h0 : 0 ≤ n) (h1 : n < 16) : (⟨(reg n).toArray⟩ : ByteArray).size ≤ 12 := by
  have := reg_len n h0 h1
  show (reg n).toArray.size ≤ 12
  simp; omega
theorem lret_some {z : Int} {x : Ins} (h : dec z = some x) {t : ByteArray} (ht : t.data.toList = lineI x) : LRet z (.returned (.tuple #[.string t, .int .i64 0])) :=
  ⟨t, 0, rfl, .inr ⟨by unfold lineF; rw [h, ht]; rfl, rfl⟩⟩
end As
theorem line_any (z : Int) (h0 : 0 ≤ z) (h1 : z < 4294967296) (w : World) (hg : Ga w) {base bN b1 b2 : Nat} {vn vs : Value} (hN : As.Nm w base bN b1 b2 vn vs As.tab) :
    Calls Tryd.prog 8 #[.pointer (some ⟨bN, 0, none⟩), .int .u32 z] w fun e w' => As.LRet z e ∧ ∃ g, w' = more w g := by
  have HD := fun w => pdec_any z w h0 h1
  cases hd : As.dec z with
  | none =>
    have hD : As.decD z = (As.zero, 20) := by unfold As.decD; rw [hd]
    rw [hD] at HD
    exact (line_no z As.zero w bN (Lib.hid HD)).mono fun e w' ⟨he, hw⟩ => ⟨⟨_, _, he, .inl ⟨by unfold As.lineF; rw [hd]; rfl, rfl, rfl⟩⟩, hw⟩
  | some x =>
    have hD : As.decD z = (x, 0) := by unfold As.decD; rw [hd]
    rw [hD] at HD
    obtain ⟨hgd, he, hr⟩ := As.dec_some hd
    have hR := hN.rd (As.name_in hgd)
    have hbd := As.good_bd hgd
    have hnl := (As.name_facts hgd).2
    have HR := fun n (a : 0 ≤ n) (b : n < 16) => Lib.hid (fun w hg => register_any n a b w hg)
    have HI := fun n (a : -100000000 < n) (b : n < 100000000) => Lib.hid (fun w hg => itoa_any n (by omega) (by omega) w hg)
    obtain ⟨f, u, v, a, b, c, op, n⟩ := x
    simp only at hbd
    obtain ⟨bn0, bn1, ba0, ba1, bb0, bb1, bc0, bc1⟩ := hbd
    obtain ⟨_, h⟩ := hgd
    simp only at h
    have hNM : (⟨(As.name ⟨f, u, v, a, b, c, op, n⟩).toArray⟩ : ByteArray).size ≤ 10 := by
      show (As.name _).toArray.size ≤ 10
      simp; omega
    have fin : ∀ (T : ByteArray), T.data.toList = As.lineI ⟨f, u, v, a, b, c, op, n⟩ → ∀ (A : World → Ending → World → Prop), True := fun _ _ _ => trivial
    rcases h with ⟨rfl, rfl, h⟩ | ⟨rfl, rfl, h⟩ | ⟨rfl, rfl, rfl, h⟩ | ⟨rfl, rfl, rfl, h3, h4⟩
    · refine (line0_any z u v a b c op w bN ⟨(As.name ⟨0, u, v, a, b, c, op, 0⟩).toArray⟩ hNM _ (As.sz_reg ba0 ba1) (HR a ba0 ba1) _ (As.sz_reg bb0 bb1) (HR b bb0 bb1) _ (As.sz_reg bc0 bc1) (HR c bc0 bc1) (Lib.hid HD) (Lib.hid hg) hR).mono fun e w' ⟨he, hw⟩ => ⟨?_, hw⟩
      subst he
      exact As.lret_some hd (by simp [As.lineI, As.rest, ByteArray.data_append])
    · refine (line1_any z u v a b op n w bN ⟨(As.name ⟨1, u, v, a, b, 0, op, n⟩).toArray⟩ hNM _ (As.sz_reg ba0 ba1) (HR a ba0 ba1) _ (As.sz_reg bb0 bb1) (HR b bb0 bb1) _ (As.sz_itoa bn0 bn1) (HI n bn0 bn1) (Lib.hid HD) (Lib.hid hg) hR).mono fun e w' ⟨he, hw⟩ => ⟨?_, hw⟩
      subst he
      exact As.lret_some hd (by simp [As.lineI, As.rest, ByteArray.data_append])
    · refine (line2_any z u v a b n w bN ⟨(As.name ⟨2, u, v, a, b, 0, 0, n⟩).toArray⟩ hNM _ (As.sz_reg ba0 ba1) (HR a ba0 ba1) _ (As.sz_reg bb0 bb1) (HR b bb0 bb1) _ (As.sz_itoa bn0 bn1) (HI n bn0 bn1) (Lib.hid HD) (Lib.hid hg) hR).mono fun e w' ⟨he, hw⟩ => ⟨?_, hw⟩
      subst he
      exact As.lret_some hd (by simp [As.lineI, As.rest, ByteArray.data_append])
    · cases u
      · obtain rfl := h4 rfl
        refine (line3f_any z v a c w bN ⟨(As.name ⟨3, false, v, a, 0, c, 0, 0⟩).toArray⟩ hNM _ (As.sz_reg bc0 bc1) (HR c bc0 bc1) (Lib.hid HD) (Lib.hid hg) hR).mono fun e w' ⟨he, hw⟩ => ⟨?_, hw⟩
        subst he
        exact As.lret_some hd (by simp [As.lineI, As.rest, ByteArray.data_append])
      · obtain ⟨rfl, _, _⟩ := h3 rfl
        refine (line3t_any z v a n w bN ⟨(As.name ⟨3, true, v, a, 0, 0, 0, n⟩).toArray⟩ hNM _ (As.sz_itoa bn0 bn1) (HI n bn0 bn1) (Lib.hid HD) (Lib.hid hg) hR).mono fun e w' ⟨he, hw⟩ => ⟨?_, hw⟩
        subst he
        exact As.lret_some hd (by simp [As.lineI, As.rest, ByteArray.data_append])
abbrev CutpIs (s D : ByteArray) (B : Bool) : Prop := ∀ w : World, Calls Tryd.prog 51 #[.string s, .string ⟨#[82]⟩] w fun e w' => e = .returned (.tuple #[.string D, .bool B]) ∧ w' = w
set_option maxRecDepth 100000 in
theorem operand_yes (s D : ByteArray) (B : Bool) (v : Int) (w : World) (H1 : Hid (CutpIs s D B)) (H2 : Hid (∀ w, Ga w → Calls Tryd.prog 52 #[.string D] w fun e w' => e = .returned (.tuple #[.int .i64 v, .nilIface]) ∧ ∃ g, w' = more w g)) (HG : Hid (Ga w)) :
    Calls Tryd.prog 40 #[.string s] w fun e w' => e = .returned (.tuple #[.int .i64 v, .bool B, .bool true]) ∧ ∃ g, w' = more w g := by
  go_enter Tryd.func40, Tryd.ntmps40
  go_wp2_with (first | (go_at_call 51; (with_reducible refine (H1.out _).mono ?_); rintro e w2 ⟨rfl, rfl⟩) | (go_at_call 52; (with_reducible refine (H2.out _ HG.out).mono ?_); rintro e w2 ⟨rfl, g, rfl⟩))
  go_quiet (fail)
  go_wp2
  go_ret3
  exact ⟨rfl, more_of_below (by repeat' (first | (with_reducible exact Below.refl _ _) | (with_reducible assumption) | (with_reducible refine below_more ?_ ?_ _) | (with_reducible refine below_drewN ?_ _) | (with_reducible refine Below.drew ?_) | (with_reducible refine Below.alloc ?_ ?_ _) | (with_reducible refine Below.setCell ?_ ?_ _) | go_size | (simp [more_size]; done) | (simp [more_size]; omega)))⟩
set_option maxRecDepth 100000 in
theorem operand_no (s D : ByteArray) (B : Bool) (w : World) (H1 : Hid (CutpIs s D B)) (H2 : Hid (∀ w, Ga w → Calls Tryd.prog 52 #[.string D] w fun e w' => (∃ v te pe, e = .returned (.tuple #[.int .i64 v, .iface te pe])) ∧ ∃ g, w' = more w g)) (HG : Hid (Ga w)) :
    Calls Tryd.prog 40 #[.string s] w fun e w' => (∃ v, e = .returned (.tuple #[.int .i64 v, .bool B, .bool false])) ∧ ∃ g, w' = more w g := by
  go_enter Tryd.func40, Tryd.ntmps40
  go_wp2_with (first | (go_at_call 51; (with_reducible refine (H1.out _).mono ?_); rintro e w2 ⟨rfl, rfl⟩) | (go_at_call 52; (with_reducible refine (H2.out _ HG.out).mono ?_); rintro e w2 ⟨⟨v, te, pe, rfl⟩, g, rfl⟩))
  go_quiet (fail)
  go_wp2
  go_ret3
  exact ⟨⟨_, rfl⟩, more_of_below (by repeat' (first | (with_reducible exact Below.refl _ _) | (with_reducible assumption) | (with_reducible refine below_more ?_ ?_ _) | (with_reducible refine below_drewN ?_ _) | (with_reducible refine Below.drew ?_) | (with_reducible refine Below.alloc ?_ ?_ _) | (with_reducible refine Below.setCell ?_ ?_ _) | go_size | (simp [more_size]; done) | (simp [more_size]; omega)))⟩
/-- operand: what it tells of a text -/
theorem operand_any (s : ByteArray) (w : World) (hg : Ga w) (hs : s.size < 4294967281) :
    (∀ v r, As.opd s.data.toList = some (v, r) → Calls Tryd.prog 40 #[.string s] w fun e w' => e = .returned (.tuple #[.int .i64 v, .bool r, .bool true]) ∧ ∃ g, w' = more w g) ∧
    (As.opd s.data.toList = none → Calls Tryd.prog 40 #[.string s] w fun e w' => (∃ v r, e = .returned (.tuple #[.int .i64 v, .bool r, .bool false])) ∧ ∃ g, w' = more w g) := by
  have hD : (⟨(Lib.trimPrefix s.data.toList [82]).toArray⟩ : ByteArray).size < 4294967281 := by
    show (Lib.trimPrefix s.data.toList [82]).toArray.size < _
    have h1 : (Lib.trimPrefix s.data.toList [82]).length ≤ s.data.toList.length := by
      unfold Lib.trimPrefix
      split <;> simp
    have h2 : s.data.toList.length = s.size := by simp
    simp only [List.size_toArray]
    omega
  have H1 : CutpIs s ⟨(Lib.trimPrefix s.data.toList [82]).toArray⟩ (Lib.hasPrefix s.data.toList [82]) := fun w => cutp_any s ⟨#[82]⟩ w
  have H2 := fun w hg => atoi_any ⟨(Lib.trimPrefix s.data.toList [82]).toArray⟩ w hg hD
  simp only at H2
  constructor
  · intro v r h
    unfold As.opd at h
    cases ha : Lib.atoiAll (Lib.trimPrefix s.data.toList [82])
    case ok n =>
      rw [ha] at h
      simp only [Option.some.injEq, Prod.mk.injEq] at h
      obtain ⟨rfl, rfl⟩ := h
      exact operand_yes s _ _ n w (Lib.hid H1) (Lib.hid fun w hg => (H2 w hg).mono fun e w' ⟨h, hw⟩ => ⟨by
        rcases h with ⟨v, hv, he⟩ | ⟨hn, _⟩
        · rw [ha] at hv; cases hv; exact he
        · exact absurd ha (hn n), hw⟩) (Lib.hid hg)
    all_goals (rw [ha] at h; cases h)
  · intro h
    have hno : ∀ v, Lib.atoiAll (Lib.trimPrefix s.data.toList [82]) ≠ .ok v := fun v hv => by
      unfold As.opd at h
      rw [hv] at h
      cases h
    exact (operand_no s _ _ w (Lib.hid H1) (Lib.hid fun w hg => (H2 w hg).mono fun e w' ⟨h, hw⟩ => ⟨by
      rcases h with ⟨v, hv, he⟩ | ⟨_, he⟩
      · exact absurd hv (hno v)
      · exact he, hw⟩) (Lib.hid hg)).mono fun e w' ⟨⟨v, he⟩, hw⟩ => ⟨⟨v, _, he⟩, hw⟩
end Go.Proofs.YtcckbmmjklahfaaDoor

namespace Go.Proofs.YtcckbmmjklahfaaDoor
set_option linter.all false
open Go.RowKit
theorem owns_kept' {w w' : World} {base : Nat} {e : TypeId} {size : Nat} {v : Value} {n : Nat} {xs : List Value} (h : w.ownsRow base e size v n xs) (hb : Below w.heap.size w w') : w'.ownsRow base e size v n xs :=
  h.kept (row := none) ⟨hb.os, hb.tape, hb.output, hb.size, fun k hk _ => hb.block k hk⟩ (by cases hv : v.ownBlock <;> simp)
theorem reads_litq (w : World) (p : Nat) (cs : Array Value) (e : TypeId) (n size : Nat) (hm : n ≤ maxLen) (hs : cs.size = n * size) (hp : p = w.heap.size) : Reads (w.alloc (.cells cs e)) (.slice (some ⟨p, 0, none⟩) n n) n size cs.toList := by
  subst hp; exact reads_lit w cs e n size hm hs
namespace As
theorem kcells_get (l : List (List UInt8 × Shape)) : ∀ (i : Nat) (e : List UInt8 × Shape) (j : Nat), l[i]? = some e → j < 4 → (kcells l)[i * 4 + j]? = (kcell e.2)[j]? := by
  induction l with
  | nil => intro i e j h; simp at h
  | cons x t ih =>
    intro i e j h hj
    have hk : kcells (x :: t) = kcell x.2 ++ kcells t := rfl
    have h4 : (kcell x.2).length = 4 := rfl
    rw [hk]
    cases i with
    | zero =>
      simp only [List.getElem?_cons_zero, Option.some.injEq] at h
      subst h
      rw [Nat.zero_mul, Nat.zero_add, List.getElem?_append_left (by omega)]
    | succ i =>
      rw [List.getElem?_append_right (by omega), h4, show (i + 1) * 4 + j - 4 = i * 4 + j by omega]
      exact ih i e j (by simpa using h) hj
/-- a name that is there: what word's look-ups read -/
def Rw (w : World) (bN : Nat) (nm : ByteArray) (S : Shape) : Prop :=
  ∃ (b2 bsh i cap : Nat), bN < w.heap.size ∧ i < 84 ∧ bsh < w.heap.size ∧ w.cell? ⟨bN, 3, none⟩ = some (.map (some b2)) ∧ w.cell? ⟨bN, 1, none⟩ = some (.slice (some ⟨bsh, 0, none⟩) 84 cap) ∧ 84 ≤ cap ∧
    (∀ j v, (kcell S)[j]? = some v → w.cell? ⟨bsh, i * 4 + j, none⟩ = some v) ∧ (∀ w', Below w.heap.size w w' → (Instr.lookup 42 (.map (some b2)) (.string nm) true).run Tryd.prog w' = .ok (.tuple #[.int .i64 i, .bool true]) w')
/-- a name that is not there -/
def Rn (w : World) (bN : Nat) (nm : ByteArray) : Prop :=
  ∃ b2 : Nat, bN < w.heap.size ∧ w.cell? ⟨bN, 3, none⟩ = some (.map (some b2)) ∧ (∀ w', Below w.heap.size w w' → (Instr.lookup 42 (.map (some b2)) (.string nm) true).run Tryd.prog w' = .ok (.tuple #[.int .i64 0, .bool false]) w')
theorem bv_of (nm : ByteArray) : bv nm.data.toList = .string nm := by unfold bv; simp
theorem Nm.rn {w : World} {base bN b1 b2 : Nat} {vn vs : Value} (h : Nm w base bN b1 b2 vn vs tab) {nm : ByteArray} (hs : nm.size ≤ 1000) (hl : look nm.data.toList = none) : Rn w bN nm := by
  have hcell := fun j v (hj : (#[vn, vs, Value.map (some b1), Value.map (some b2)] : Array Value)[j]? = some v) => by
    have := cell_of_row w bN j _ _ _ h.cells
    rw [hj] at this; exact this
  refine ⟨b2, lt_of h.cells, hcell 3 _ rfl, fun w' hb => ?_⟩
  obtain ⟨kl, hkl⟩ := bv_key nm.data.toList (by rw [show nm.data.toList.length = nm.size by simp]; unfold maxLen; omega)
  have hz : ∀ u : World, (zeroValue 3).run Tryd.prog u = .ok (.int .i64 0) u := fun _ => by kernel_rfl
  rcases map_look str_law Tryd.underlying42 hz ((h.below hb).map2) hkl (fun x hx => by obtain ⟨y, hy, e⟩ := mem_nents hx; rw [e]; exact bv_key y.1 (by have := (tab_fit y hy).1; unfold maxLen; omega)) true with ⟨_, hr⟩ | ⟨v, hv, _⟩
  · rw [bv_of] at hr; exact hr
  · exfalso
    obtain ⟨j, rfl, S, hj⟩ := nents_at hv
    have hn := List.findIdx?_eq_none_iff.1 hl
    have := hn _ (List.mem_of_getElem? hj)
    simp at this
theorem Nm.rw {w : World} {base bN b1 b2 : Nat} {vn vs : Value} (h : Nm w base bN b1 b2 vn vs tab) {nm : ByteArray} {S : Shape} {i : Nat} (hl : look nm.data.toList = some i) (hi : tab[i]? = some (nm.data.toList, S)) : Rw w bN nm S := by
  have hcell := fun j v (hj : (#[vn, vs, Value.map (some b1), Value.map (some b2)] : Array Value)[j]? = some v) => by
    have := cell_of_row w bN j _ _ _ h.cells
    rw [hj] at this; exact this
  have hlen : tab.length = 84 := tab_len
  have hi84 : i < 84 := by rw [← hlen]; exact (List.getElem?_eq_some_iff.1 hi).1
  have ho := h.own2
  have hin := List.mem_of_getElem? hi
  rcases (Reads.of_owns ho).2 with ⟨h0, _⟩ | ⟨b, off, c, hb, hnc, _, hlt, hc⟩
  · omega
  rcases ho.2 with ⟨rfl, _⟩ | ⟨g, cap, cur, rfl, _⟩
  · cases hb
  simp only [Value.slice.injEq, Option.some.injEq, Addr.mk.injEq, and_true] at hb
  obtain ⟨⟨rfl, rfl⟩, _, rfl⟩ := hb
  refine ⟨b2, g, i, cap, lt_of h.cells, hi84, hlt, hcell 3 _ rfl, by rw [← hlen]; exact hcell 1 _ rfl, by omega, fun j v hj => ?_, fun w' hb => ?_⟩
  · have hj4 : j < 4 := by
      have := (List.getElem?_eq_some_iff.1 hj).1
      simpa [kcell] using this
    have := hc (i * 4 + j) v (by rw [kcells_get tab i _ j hi hj4]; exact hj)
    rw [Nat.zero_add] at this
    exact this
  · obtain ⟨kl, hkl⟩ := bv_key nm.data.toList (by have := (tab_fit _ hin).1; simp only at this; unfold maxLen; omega)
    have hz : ∀ u : World, (zeroValue 3).run Tryd.prog u = .ok (.int .i64 0) u := fun _ => by kernel_rfl
    rcases map_look str_law Tryd.underlying42 hz ((h.below hb).map2) hkl (fun x hx => by obtain ⟨y, hy, e⟩ := mem_nents hx; rw [e]; exact bv_key y.1 (by have := (tab_fit y hy).1; unfold maxLen; omega)) true with ⟨hno, _⟩ | ⟨v, hv, hr⟩
    · exact absurd rfl (hno _ (in_nents hi))
    · obtain ⟨j, rfl, S2, hj⟩ := nents_at hv
      have hj84 : j < 84 := by rw [← hlen]; exact (List.getElem?_eq_some_iff.1 hj).1
      have h4 : look (tab[j]!).1 = some j := tab_look ⟨j, hj84⟩
      have h3 : (tab[j]!).1 = nm.data.toList := by simp [hj]
      rw [h3, hl, Option.some.injEq] at h4
      rw [← h4, bv_of] at hr
      exact hr
/-- the last operand is a register -/
def lastF (l : List (Int × Bool)) : Bool := (l.getLast?.map Prod.snd).getD false
theorem lastF_snoc (l : List (Int × Bool)) (x : Int × Bool) : lastF (l ++ [x]) = x.2 := by simp [lastF]
theorem opds_at {l : List (List UInt8)} : ∀ {O : List (Int × Bool)}, opds l = some O → l.length = O.length ∧ ∀ (k : Nat) (x : Int × Bool), O[k]? = some x → ∃ p : List UInt8, l[k]? = some p ∧ opd p = some x := by
  induction l with
  | nil => intro O h; simp only [opds, Option.some.injEq] at h; subst h; simp
  | cons s t ih =>
    intro O h
    simp only [opds] at h
    cases h1 : opd s with
    | none => rw [h1] at h; cases h
    | some p =>
      cases h2 : opds t with
      | none => rw [h1, h2] at h; cases h
      | some r =>
        rw [h1, h2] at h
        simp only [Option.some.injEq] at h
        subst h
        obtain ⟨e1, e2⟩ := ih h2
        refine ⟨by simp [e1], fun k x hk => ?_⟩
        cases k with
        | zero => simp only [List.getElem?_cons_zero, Option.some.injEq] at hk; subst hk; exact ⟨s, rfl, h1⟩
        | succ k => simpa using e2 k x (by simpa using hk)
theorem opds_no {l : List (List UInt8)} (h : opds l = none) : ∃ O : List (Int × Bool), O.length < l.length ∧ (∀ (k : Nat) (x : Int × Bool), O[k]? = some x → ∃ p : List UInt8, l[k]? = some p ∧ opd p = some x) ∧ ∃ p : List UInt8, l[O.length]? = some p ∧ opd p = none := by
  induction l with
  | nil => cases h
  | cons s t ih =>
    cases h1 : opd s with
    | none => exact ⟨[], by simp, by simp, s, rfl, h1⟩
    | some p =>
      cases h2 : opds t with
      | some r => simp only [opds, h1, h2] at h; cases h
      | none =>
        obtain ⟨O, e1, e2, q, e3, e4⟩ := ih h2
        refine ⟨p :: O, by simp; omega, fun k x hk => ?_, q, by simpa using e3, e4⟩
        cases k with
        | zero => simp only [List.getElem?_cons_zero, Option.some.injEq] at hk; subst hk; exact ⟨s, rfl, h1⟩
        | succ k => simpa using e2 k x (by simpa using hk)
end As
end Go.Proofs.YtcckbmmjklahfaaDoor
