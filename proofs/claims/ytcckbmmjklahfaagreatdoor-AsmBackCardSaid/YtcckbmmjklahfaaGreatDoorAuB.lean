/- The walk of spinetkeep.Words: are two lists of words alike? Conditions: the lists read as lists of words. The library's builder, that a call has made itself: its contracts at this program. Conditions: as the library's. Lines' words, step by step: what a line that begins with a sign tells, and how the words of a text go on. No program in sight. Conditions: words lie in their bounds. -/
import Derived.Test.YtcckbmmjklahfaaGreatDoorAppendW
import Derived.Test.YtcckbmmjklahfaaGreatDoorChecked
import Derived.Test.YtcckbmmjklahfaaGreatDoorLt2W
import Derived.BigQuiet
import Derived.Deep.QuietTactic
import Derived.Handy
import Derived.Lib.Hide
import Derived.Test.YtcckbmmjklahfaaGreatDoorShelf
import Derived.Shelf.Strings.Builder1
import Derived.Test.YtcckbmmjklahfaaGreatDoorAsR
namespace Go.Proofs.YtcckbmmjklahfaaGreatDoor
set_option linter.all false
open Go.RowKit
namespace As
def wcells (l : List Int) : List Value := l.map (Value.int .u32)
theorem wcells_at (l : List Int) (k : Nat) (h : k < l.length) : (wcells l)[k]? = some (.int .u32 l[k]) := by simp [wcells, h]
end As
set_option maxRecDepth 100000 in
set_option maxHeartbeats 1600000 in
theorem keepWords_ne (xs ys : List Int) (p q : Option Addr) (c d : Nat) (w : World) (hn : (xs.length : Int) ≤ 1000000000) (hm : (ys.length : Int) ≤ 1000000000) (hne : ((xs.length : Int) != (ys.length : Int)) = true) :
    Calls Tryz.prog 13 #[.slice p xs.length c, .slice q ys.length d] w fun e w' => e = .returned (.bool false) ∧ ∃ g, w' = more w g := by
  go_enter Tryz.func13, Tryz.ntmps13
  go_wp2
  go_ret
  exact ⟨rfl, more_refl _⟩
set_option maxRecDepth 100000 in
set_option maxHeartbeats 1600000 in
theorem keepWords_eq (xs ys : List Int) (n b off c b2 off2 d : Nat) (w : World) (hx : xs.length = n) (hy : ys.length = n) (hn : (n : Int) ≤ 1000000000) (hc : (n : Int) ≤ (c : Int)) (hd : (n : Int) ≤ (d : Int)) (hb : b < w.heap.size) (hb2 : b2 < w.heap.size)
    (HX : Hid (∀ k (h : k < xs.length), w.cell? ⟨b, off + k, none⟩ = some (.int .u32 xs[k]))) (HY : Hid (∀ k (h : k < ys.length), w.cell? ⟨b2, off2 + k, none⟩ = some (.int .u32 ys[k]))) :
    Calls Tryz.prog 13 #[.slice (some ⟨b, off, none⟩) n c, .slice (some ⟨b2, off2, none⟩) n d] w fun e w' => e = .returned (.bool (decide (xs = ys))) ∧ ∃ g, w' = more w g := by
  have HNX := Lib.hid hx
  have HNY := Lib.hid hy
  clear hx hy
  go_enter Tryz.func13, Tryz.ntmps13
  go_wp2
  go_loopw [5] (fun i wr => ∃ k : Nat, k ≤ n ∧ i = .int .i64 k ∧ Hid (∀ j (h1 : j < xs.length) (h2 : j < ys.length), j < k → xs[j] = ys[j]) ∧ ∃ g, wr = more w g) (fun i _ => n - (intOf i).toNat)
  case atStart => exact ⟨0, by omega, rfl, Lib.hid (fun j h1 h2 h => by omega), more_refl _⟩
  case round =>
    obtain ⟨k, hk, rfl, H, g, rfl⟩ := hrel
    by_cases hlt : k < n
    · have h1 : k < xs.length := by rw [HNX.out]; exact hlt
      have h2 : k < ys.length := by rw [HNY.out]; exact hlt
      have c1 := HX.out k h1
      have c2 := HY.out k h2
      have hk0 : (0 : Int) ≤ (k : Int) := by omega
      have hk1 : (k : Int) < (n : Int) := by omega
      by_cases he : xs[k] = ys[k]
      · rw [← he] at c2
        have HN := Lib.hid (show ∀ j (h1 : j < xs.length) (h2 : j < ys.length), j < k + 1 → xs[j] = ys[j] from fun j q1 q2 h => by
          by_cases hj : j = k
          · subst hj; exact he
          · exact H.out j q1 q2 (by omega))
        clear he
        generalize xs[k] = x at *
        go_wp2
        go_quiet (fail)
        go_wp2
        go_roundw
        case rel => exact ⟨k + 1, by omega, by go_num, HN, more_of_below (by repeat' (first | (with_reducible exact Below.refl _ _) | (with_reducible assumption) | (with_reducible refine below_more ?_ ?_ _) | (with_reducible refine below_drewN ?_ _) | (with_reducible refine Below.drew ?_) | (with_reducible refine Below.alloc ?_ ?_ _) | (with_reducible refine Below.setCell ?_ ?_ _) | go_size | (simp [more_size]; done) | (simp [more_size]; omega)))⟩
        case measure => simp [intOf]; omega
      · have hn1 : (xs[k] != ys[k]) = true := by simpa using he
        have HF := Lib.hid (show decide (xs = ys) = false from decide_eq_false (fun e => he (by subst e; rfl)))
        clear he
        generalize xs[k] = x at *
        generalize ys[k] = y at *
        go_wp2
        go_quiet (fail)
        go_wp2
        go_ret
        exact ⟨by rw [HF.out]; rfl, more_of_below (by repeat' (first | (with_reducible exact Below.refl _ _) | (with_reducible assumption) | (with_reducible refine below_more ?_ ?_ _) | (with_reducible refine below_drewN ?_ _) | (with_reducible refine Below.drew ?_) | (with_reducible refine Below.alloc ?_ ?_ _) | (with_reducible refine Below.setCell ?_ ?_ _) | go_size | (simp [more_size]; done) | (simp [more_size]; omega)))⟩
    · have hkn : k = n := by omega
      subst hkn
      have HF := Lib.hid (show decide (xs = ys) = true from decide_eq_true (List.ext_getElem (by rw [HNX.out, HNY.out]) (fun j q1 q2 => H.out j q1 q2 (by rw [HNX.out] at q1; exact q1))))
      go_wp2
      go_ret
      exact ⟨by rw [HF.out]; rfl, more_of_below (by repeat' (first | (with_reducible exact Below.refl _ _) | (with_reducible assumption) | (with_reducible refine below_more ?_ ?_ _) | (with_reducible refine below_drewN ?_ _) | (with_reducible refine Below.drew ?_) | (with_reducible refine Below.alloc ?_ ?_ _) | (with_reducible refine Below.setCell ?_ ?_ _) | go_size | (simp [more_size]; done) | (simp [more_size]; omega)))⟩
set_option maxRecDepth 100000 in
theorem keepWords_nil (p q : Option Addr) (c d : Nat) (w : World) :
    Calls Tryz.prog 13 #[.slice p 0 c, .slice q 0 d] w fun e w' => e = .returned (.bool true) ∧ ∃ g, w' = more w g := by
  go_enter Tryz.func13, Tryz.ntmps13
  go_wp2
  go_loop [5] (fun i => i = .int .i64 0) (fun i => 0)
  case atStart => rfl
  case round =>
    subst hrel
    go_wp2
    go_ret
    exact ⟨rfl, more_refl _⟩
theorem keepWords_any (xs ys : List Int) (v u : Value) (w : World) (hn : xs.length ≤ 1000000000) (hm : ys.length ≤ 1000000000) (hv : Reads w v xs.length 1 (As.wcells xs)) (hu : Reads w u ys.length 1 (As.wcells ys)) :
    Calls Tryz.prog 13 #[v, u] w fun e w' => e = .returned (.bool (decide (xs = ys))) ∧ ∃ g, w' = more w g := by
  have form : ∀ {v : Value} {l : List Int}, Reads w v l.length 1 (As.wcells l) → ∃ p c, v = .slice p l.length c := fun {v l} h => by
    rcases h.2 with ⟨h0, b, c, rfl, _⟩ | ⟨b, off, c, rfl, _⟩
    · rw [h0]; exact ⟨_, _, rfl⟩
    · exact ⟨_, _, rfl⟩
  by_cases hl : xs.length = ys.length
  · rcases Nat.eq_zero_or_pos xs.length with h0 | h0
    · have hx : xs = [] := List.eq_nil_of_length_eq_zero h0
      have hy : ys = [] := List.eq_nil_of_length_eq_zero (by omega)
      obtain ⟨p, c, rfl⟩ := form hv
      obtain ⟨q, d, rfl⟩ := form hu
      subst hx hy
      exact keepWords_nil p q c d w
    · rcases hv.2 with ⟨h1, _⟩ | ⟨b, off, c, rfl, hc, _, hb, hcell⟩
      · omega
      · rcases hu.2 with ⟨h1, _⟩ | ⟨b2, off2, d, rfl, hd, _, hb2, hcell2⟩
        · omega
        · rw [← hl]
          exact keepWords_eq xs ys xs.length b off c b2 off2 d w rfl hl.symm (by omega) (by omega) (by omega) hb hb2 (Lib.hid fun k h => hcell k _ (As.wcells_at xs k h)) (Lib.hid fun k h => hcell2 k _ (As.wcells_at ys k h))
  · have hd : decide (xs = ys) = false := decide_eq_false (fun e => hl (by rw [e]))
    rw [hd]
    obtain ⟨p, c, rfl⟩ := form hv
    obtain ⟨q, d, rfl⟩ := form hu
    exact keepWords_ne xs ys p q c d w (by omega) (by omega) (by simp; omega)
end Go.Proofs.YtcckbmmjklahfaaGreatDoor

namespace Go.Proofs.YtcckbmmjklahfaaGreatDoor
set_option linter.all false
open Go.RowKit
def ren167 : Go.Shelf.Ren := ⟨fun n => if n = 167 then 30 else Tryz.lays105_ren.f n, Tryz.lays105_ren.t, Tryz.lays105_ren.g⟩
theorem lay167 : Go.Proofs.Lays.n167 Tryz.prog ren167 := {
  mixed := Tryz.lays105.mixed
  f167 := (Tryz.func30).trans (congrArg some (by kernel_rfl))
  f240 := Tryz.lays105.f240.trans (congrArg some (by kernel_rfl))
  f276 := Tryz.lays105.f276.trans (congrArg some (by kernel_rfl))
  t0 := Tryz.lays105.t0
  a0 := Tryz.lays105.a0
  z0 := Tryz.lays105.z0
  v0 := Tryz.lays105.v0
  t4 := Tryz.lays105.t4
  a4 := Tryz.lays105.a4
  z4 := Tryz.lays105.z4
  v4 := Tryz.lays105.v4
  t5 := Tryz.lays105.t5
  a5 := Tryz.lays105.a5
  z5 := Tryz.lays105.z5
  v5 := Tryz.lays105.v5
  t9 := Tryz.lays105.t9
  a9 := Tryz.lays105.a9
  z9 := Tryz.lays105.z9
  v9 := Tryz.lays105.v9
  t20 := Tryz.lays105.t20
  a20 := Tryz.lays105.a20
  z20 := Tryz.lays105.z20
  v20 := Tryz.lays105.v20
  t37 := Tryz.lays105.t37
  a37 := Tryz.lays105.a37
  z37 := Tryz.lays105.z37
  v37 := Tryz.lays105.v37
  t70 := Tryz.lays105.t70
  a70 := Tryz.lays105.a70
  z70 := Tryz.lays105.z70
  v70 := Tryz.lays105.v70
  t72 := Tryz.lays105.t72
  a72 := Tryz.lays105.a72
  z72 := Tryz.lays105.z72
  v72 := Tryz.lays105.v72
  t75 := Tryz.lays105.t75
  a75 := Tryz.lays105.a75
  z75 := Tryz.lays105.z75
  v75 := Tryz.lays105.v75
  t164 := Tryz.lays105.t164
  a164 := Tryz.lays105.a164
  z164 := Tryz.lays105.z164
  v164 := Tryz.lays105.v164 }
theorem extra167 : Go.Proofs.Builder.Extra Tryz.prog ren167 := {
  sizeBuilder := by kernel_rfl
  liesBuilder := by kernel_rfl
  t5 := Tryz.lays105.t5
  a5 := Tryz.lays105.a5
  z5 := Tryz.lays105.z5
  v5 := Tryz.lays105.v5
  infoByte := by kernel_rfl
  cellsByte := by kernel_rfl
  sizeByte := by kernel_rfl
  neB5 := by decide }
theorem wbyte_any (B b : Nat) (bs : List Value) (c : Int) (w : World) (h : Lib.IsBuilder 59 5 B b bs w) (hlen : bs.length + 1 ≤ 140737488355328) (hBw : B ≤ w.heap.size) :
    Calls Tryz.prog 30 #[.pointer (some ⟨b, 0, none⟩), .int .u8 c] w fun e w' => e = .returned .nilIface ∧ (Lib.BuilderAt 59 5 B b (.pointer (some ⟨b, 0, none⟩)) (bs ++ [.int .u8 c]) w' ∧ Below B w w') :=
  Go.Proofs.Any.Builder_WriteByte lay167 extra167 B b bs c w h hlen hBw
theorem wstring_any (B b : Nat) (bs : List Value) (s : ByteArray) (w : World) (h : Lib.IsBuilder 59 5 B b bs w) (hlen : bs.length + s.size ≤ 140737488355328) (hBw : B ≤ w.heap.size) :
    Calls Tryz.prog 29 #[.pointer (some ⟨b, 0, none⟩), .string s] w fun e w' => e = .returned (.tuple #[.int .i64 s.size, .nilIface]) ∧ (Lib.BuilderAt 59 5 B b (.pointer (some ⟨b, 0, none⟩)) (bs ++ Lib.strCells s) w' ∧ Below B w w') :=
  Go.Proofs.Any.Builder_WriteString { Tryz.lays105 with } Tryz.Builder_Extra_105 B b bs s w h hlen hBw
end Go.Proofs.YtcckbmmjklahfaaGreatDoor

namespace Go.Proofs.YtcckbmmjklahfaaGreatDoor
set_option linter.all false
namespace As
theorem ei_plain {s : List UInt8} (h : s.head? ≠ some 35) : eitherX s = wordF s := by unfold eitherX; rw [if_neg h]
theorem ei_ok {s : List UInt8} {z : Int} (h0 : 0 ≤ z) (h1 : z < 4294967296) (hs : s = 35 :: hex8 z) (hl : lineF z = none) : eitherX s = (z, 0) := by
  subst hs
  unfold eitherX
  simp [unhex_hex8 z h0 h1, hl]
theorem ei_no {s t : List UInt8} (hs : s = 35 :: t) (h : ∀ z, unhex t = some z → lineF z ≠ none) : eitherX s = (0, 60) := by
  subst hs
  unfold eitherX
  simp only [List.head?_cons, if_true, List.tail_cons]
  cases hu : unhex t with
  | none => rfl
  | some z => simp only; rw [if_neg (h z hu)]
theorem ei_no_line {s t : List UInt8} {v : Int} (hs : s = 35 :: t) (hv : ∀ z, unhex t = some z → v = z) (hl : lineF v ≠ none) : eitherX s = (0, 60) := ei_no hs fun z hz => by rw [← hv z hz]; exact hl
theorem ei_no_raw {s t : List UInt8} {v : Int} (hs : s = 35 :: t) (hv : ∀ z, unhex t = some z → v = z) (hne : s ≠ 35 :: hex8 v) : eitherX s = (0, 60) := ei_no hs fun z hz => by
  have := (hex8_unhex hz).1
  rw [← hv z hz] at this
  rw [this] at hne
  exact absurd hs hne
theorem unhexF_of {t : List UInt8} {z : Int} (h : unhex t = some z) : t ≠ [] ∧ unhexF 0 t = some z ∧ z < 4294967296 := by
  have := (hex8_unhex h).2.2
  unfold unhex at h
  split at h
  · rename_i hl
    exact ⟨by rintro rfl; simp at hl, h, this⟩
  · cases h
/-- the first lines' words are ws; what is left is r -/
def WI (s : List UInt8) (ws : List Int) (r : List UInt8) : Prop := s.count 10 ≤ 65536 ∧ ∃ ls, lns s = (ls ++ (lns r).1, (lns r).2) ∧ wl ls = (ws, true)
theorem wi_start {s : List UInt8} (h : s.count 10 ≤ 65536) : WI s [] s := ⟨h, [], rfl, rfl⟩
theorem wi_end {s : List UInt8} {ws : List Int} (h : WI s ws []) : wordsF s = (ws, 0, 0) := by
  obtain ⟨hc, ls, hl, hw⟩ := h
  unfold wordsF
  rw [if_neg (by omega), hl]
  simp only [lns, List.append_nil, hw]
  simp
theorem wi_next {s a t : List UInt8} {ws : List Int} {z : Int} (h : WI s ws (a ++ 10 :: t)) (ha : (10 : UInt8) ∉ a) (he : eitherX a = (z, 0)) : WI s (ws ++ [z]) t := by
  obtain ⟨hc, ls, hl, hw⟩ := h
  refine ⟨hc, ls ++ [a], ?_, ?_⟩
  · rw [hl, lns_at a t ha]; simp
  · rw [wl_snoc ls [a] (by rw [hw]), hw]
    simp [wl, he]
theorem wi_bad {s a t : List UInt8} {ws : List Int} (h : WI s ws (a ++ 10 :: t)) (ha : (10 : UInt8) ∉ a) (he : (eitherX a).2 ≠ 0) : wordsF s = ([], (ws.length : Int), 60) := by
  obtain ⟨hc, ls, hl, hw⟩ := h
  unfold wordsF
  rw [if_neg (by omega), hl, lns_at a t ha]
  simp only
  have e : wl (ls ++ a :: (lns t).1) = (ws, false) := by
    rw [wl_snoc ls _ (by rw [hw]), hw]
    simp [wl, he]
  rw [e]
  simp
theorem wi_rest {s r : List UInt8} {ws : List Int} (h : WI s ws r) (hr : r ≠ []) (ha : (10 : UInt8) ∉ r) : wordsF s = ([], (ws.length : Int), 60) := by
  obtain ⟨hc, ls, hl, hw⟩ := h
  unfold wordsF
  rw [if_neg (by omega), hl, lns_none r ha]
  simp [hw, hr]
theorem words_many {s : List UInt8} (h : 65536 < s.count 10) : wordsF s = ([], 0, 3) := by unfold wordsF; rw [if_pos h]
theorem wi_len {s r : List UInt8} {ws : List Int} (h : WI s ws r) : ws.length ≤ 65536 := by
  obtain ⟨hc, ls, hl, hw⟩ := h
  have h1 : ∀ ls : List (List UInt8), (wl ls).1.length ≤ ls.length := by
    intro ls
    induction ls with
    | nil => simp [wl]
    | cons l t ih =>
      simp only [wl]
      split
      · simp; exact ih
      · simp
  have h2 : ∀ s : List UInt8, (lns s).1.length = s.count 10 := by
    intro s
    induction s with
    | nil => rfl
    | cons c t ih =>
      simp only [lns]
      split
      · rename_i hc; subst hc; simp [ih]
      · rename_i hc
        rw [List.count_cons_of_ne (by simpa using hc)]
        cases hl : (lns t).1 with
        | nil => rw [hl] at ih; simpa using ih
        | cons l ls => rw [hl] at ih; simpa using ih
  have e1 := h1 ls
  rw [hw] at e1
  have e2 := h2 s
  rw [hl] at e2
  simp at e1 e2
  omega
/-- a cut at a line's end -/
theorem cut_line (r : List UInt8) : (∃ a t, r = a ++ 10 :: t ∧ (10 : UInt8) ∉ a ∧ Lib.cut r [10] = (a, t, true)) ∨ ((10 : UInt8) ∉ r ∧ Lib.cut r [10] = (r, [], false)) := by
  by_cases h : (10 : UInt8) ∈ r
  · obtain ⟨a, t, hr, ha⟩ : ∃ a t, r = a ++ 10 :: t ∧ (10 : UInt8) ∉ a := by
      induction r with
      | nil => cases h
      | cons c u ih =>
        by_cases hc : c = 10
        · exact ⟨[], u, by rw [hc]; rfl, by simp⟩
        · obtain ⟨a, t, e, ha⟩ := ih (by
            rcases List.mem_cons.1 h with h | h
            · exact absurd h.symm hc
            · exact h)
          exact ⟨c :: a, t, by rw [e]; rfl, by simp [ha]; exact fun e => hc e.symm⟩
    refine .inl ⟨a, t, hr, ha, ?_⟩
    rw [hr]
    exact cut_at [] ha
  · exact .inr ⟨h, cut_never [] h⟩
theorem lineX_len (z : Int) : (lineX z).length ≤ 60 := by
  unfold lineX
  cases h : lineF z with
  | none => simp [hex8, hexK_len]
  | some s =>
    obtain ⟨x, hg, _, rfl⟩ := lineF_of h
    have hn := (name_facts hg).2
    have hr := rest_len hg
    simp only [Option.getD_some, lineI, List.length_append, List.length_cons]
    omega
theorem linesF_len (l : List Int) : (linesF l).length ≤ 61 * l.length := by
  induction l with
  | nil => simp [linesF]
  | cons z t ih =>
    have : linesF (z :: t) = lineX z ++ 10 :: linesF t := by simp [linesF]
    have h2 := lineX_len z
    rw [this]; simp; omega
theorem linesF_snoc (l : List Int) (z : Int) : linesF (l ++ [z]) = linesF l ++ (lineX z ++ [10]) := by simp [linesF]
end As
end Go.Proofs.YtcckbmmjklahfaaGreatDoor
