/- The walk of the library's formatBits at base 16, and of FormatUint there; asm.raw. Conditions: the library's variables are as they were laid; the number is a word of 32 bits. The walk of asm.raw. Conditions: the library's variables are as they were laid; the word is one. The walk of the library's inner ParseUint at base 16 and size 32, at any text: it returns; and where the text is digits written small, what it returns. Conditions: the text's size is bounded. The walk of the library's inner ParseUint at base 16 and size 32, at any text. Conditions: the text's size is bounded. The walk of the library's ParseUint at base 16 and size 32, at any text. Conditions: the library's variables are as they were laid; the text's size is bounded. -/
import Derived.Test.YtcckbmmjklahfaaGreatDoorTokI
import Derived.Test.YtcckbmmjklahfaaGreatDoorAsS
import Derived.Test.YtcckbmmjklahfaaGreatDoorAsR
import Derived.Laws.BytesArg
import Derived.BigQuiet
import Derived.Laws.StructEq
import Derived.Test.YtcckbmmjklahfaaGreatDoorLt2W
import Derived.Lib.ConvBytes
import Derived.Lib.Walk
import Derived.Lib.AtoiErrMem
import Derived.Laws.Strings3
import Derived.Laws.BitsAllLaws
import Derived.BigCall
import Derived.BigGuard
import Derived.Shelf.Strconv.ToError
namespace Go.Proofs.YtcckbmmjklahfaaGreatDoor
set_option linter.all false
open Go.RowKit
theorem tz16_any (w : World) (hdb : w.cell? ⟨9, 15, none⟩ = some (.int .u8 4)) :
    Calls Tryz.prog 125 #[.int .u64 16] w fun e w' => e = .returned (.int .i64 4) ∧ w' = w := by
  have h1 : IntKind.u64.wrap (-16) = 18446744073709551600 := by rw [IntKind.wrap_u64]; decide
  have h2 : bits .and .u64 16 18446744073709551600 = 16 := by decide +kernel
  have h3 : IntKind.u64.wrap (16 * 285870213051353865) = 4573923408821661840 := by rw [IntKind.wrap_u64]; decide
  go_enter Tryz.func125, Tryz.ntmps125
  go_wp2
  go_ret
  exact ⟨rfl, rfl⟩
theorem pow16_any (w : World) : Calls Tryz.prog 124 #[.int .i64 16] w fun e w' => e = .returned (.bool true) ∧ w' = w := by
  have h2 : bits .and .i64 16 15 = 0 := by decide +kernel
  go_enter Tryz.func124, Tryz.ntmps124
  go_wp2
  go_ret
  exact ⟨rfl, rfl⟩
theorem convert_drop {W : World} {b i : Nat} {A : Array Value} {t : TypeId} {l : List UInt8} (hA : A.size = 65) (hi : i + l.length = 65) (hl : A.toList.drop i = Tk.byteCells l) (cap : Nat) :
    (convert 57 9 (.slice (some ⟨(W : World).heap.size, i, none⟩) l.length cap)).run Tryz.prog (W.alloc (.cells A t)) = .ok (.string ⟨l.toArray⟩) (W.alloc (.cells A t)) := by
  have := run_convert_bytes_arg (P := Tryz.prog) (W.alloc (.cells A t)) 57 5 Tryz.underlying57 Tryz.underlying5 W.heap.size i l.length cap (l.map fun c => (c.toNat : Int)) (by simp) (fun j hj => ?_) 9 Tryz.underlying9
  · have hs : strOfNums (l.map fun c => (c.toNat : Int)) = ⟨l.toArray⟩ := by
      apply ByteArray.ext
      have hm : (l.map fun c => (c.toNat : Int)).map (fun n => UInt8.ofNat n.toNat) = l := by
        rw [List.map_map]
        conv => rhs; rw [← List.map_id l]
        refine List.map_congr_left fun c _ => ?_
        simp
      show (((l.map fun c => (c.toNat : Int)).map (fun n => UInt8.ofNat n.toNat)).toArray : Array UInt8) = l.toArray
      rw [hm]
    rw [this, hs]
  · have hc : (W.alloc (.cells A t)).cell? ⟨W.heap.size, i + j, none⟩ = A[i + j]? := by simp [go_sem]
    rw [hc, ← Array.getElem?_toList, ← List.getElem?_drop, hl]
    simp [Tk.byteCells, hj, List.getD]
set_option maxRecDepth 100000 in
set_option maxHeartbeats 3200000 in
theorem fb16_any (u : Nat) (hu : u < 4294967296) (w : World) (hdb : w.cell? ⟨9, 15, none⟩ = some (.int .u8 4)) :
    Calls Tryz.prog 109 #[.slice none 0 0, .int .u64 u, .int .i64 16, .bool false, .bool false] w fun e w' => e = .returned (.tuple #[.slice none 0 0, .string ⟨(Tk.lexN16 u).toArray⟩]) ∧ ∃ g, w' = more w g := by
  have hdb2 : ∀ o : Obj, (w.alloc o).cell? ⟨9, 15, none⟩ = some (.int .u8 4) := fun o => by
    have hlt : 9 < w.heap.size := World.block_lt_of_cell? _ _ hdb
    simp [go_sem, hlt, hdb]
  obtain ⟨A0, hA0, hZ⟩ : ∃ A0 : Array Value, A0.size = 65 ∧ Tryz.zeroCells168 = A0 := ⟨_, by kernel_rfl, rfl⟩
  go_enter Tryz.func109, Tryz.ntmps109
  go_wp2_with (first | (go_at_call 125; (with_reducible refine (tz16_any _ ?_).mono ?_); (focus (exact hdb2 _)); rintro e w2 ⟨rfl, rfl⟩) | (go_at_call 124; (with_reducible refine (pow16_any _).mono ?_); rintro e w2 ⟨rfl, rfl⟩))
  clear hZ
  go_loopw [1, 13] (fun su si wr => ∃ (uk i : Nat) (a : Int) (l : List UInt8) (A : Array Value), su = .int .u64 a ∧ si = .int .i64 i ∧ wr = w.alloc (.cells A 168) ∧ A.size = 65 ∧ i + l.length = 65 ∧ 58 ≤ i ∧ 0 ≤ a ∧ a < 4294967296 ∧ Hid (a = (uk : Int) ∧ uk < 16 ^ (8 - l.length) ∧ A.toList.drop i = Tk.byteCells l ∧ Tk.lexN16 u = Tk.lexN16 uk ++ l)) (fun su _ _ => (intOf su).toNat)
  case atStart => exact ⟨u, 65, u, [], A0, rfl, rfl, rfl, hA0, by simp, by omega, by omega, by omega, Lib.hid ⟨rfl, by simpa using hu, by rw [List.drop_eq_nil_of_le (by simp [hA0])]; rfl, by simp⟩⟩
  case round =>
    obtain ⟨uk, i, a, l, A, rfl, rfl, rfl, hAs, hil, hi, ha0, ha1, H⟩ := hrel
    obtain ⟨hau, hub, hdr, hlx⟩ := H.out
    clear H
    have hidx : i = 65 - l.length := by omega
    obtain ⟨j, rfl⟩ : ∃ j, i = j + 1 := ⟨i - 1, by omega⟩
    have hdl : uk % 16 < 16 := Nat.mod_lt _ (by decide)
    have hand : bits .and .u64 a 15 = ((uk % 16 : Nat) : Int) := by rw [hau]; exact Tk.and15 uk (by omega)
    by_cases hge : (16 : Int) ≤ a
    · have h58 : 58 ≤ j := by
        have : l.length ≤ 6 := by
          rcases Nat.lt_or_ge l.length 7 with h | h
          · omega
          · exfalso
            have : 8 - l.length ≤ 1 := by omega
            have : 16 ^ (8 - l.length) ≤ 16 ^ 1 := Nat.pow_le_pow_right (by decide) this
            omega
        omega
      have hub2 : uk / 16 < 16 ^ (8 - (l.length + 1)) := by
        have : 16 ^ (8 - l.length) = 16 ^ (8 - (l.length + 1)) * 16 := by rw [← Nat.pow_succ]; congr 1; omega
        rw [this] at hub
        exact Nat.div_lt_of_lt_mul (by rw [Nat.mul_comm]; exact hub)
      have hset := Tk.set_drop (i := j) (by omega) hdr (Value.int .u8 ((Tk.lx (uk % 16)).toNat : Int))
      have HN := Lib.hid (show a / 16 = ((uk / 16 : Nat) : Int) ∧ uk / 16 < 16 ^ (8 - (Tk.lx (uk % 16) :: l).length) ∧ (A.setIfInBounds j (.int .u8 ((Tk.lx (uk % 16)).toNat : Int))).toList.drop j = Tk.byteCells (Tk.lx (uk % 16) :: l) ∧ Tk.lexN16 u = Tk.lexN16 (uk / 16) ++ (Tk.lx (uk % 16) :: l) from
        ⟨by rw [hau]; omega, hub2, hset.1, by rw [hlx, Tk.lexN16_big (by omega)]; simp⟩)
      have hdv : 0 ≤ a / 16 ∧ a / 16 < a := by omega
      have hz2 := hset.2
      have hdig := Lib.hid (Tk.digs_at (uk % 16) hdl)
      have hjA : j < A.size := by omega
      obtain ⟨v0, hv0⟩ : ∃ v0, A[j]? = some v0 := ⟨A[j], Array.getElem?_eq_getElem hjA⟩
      clear hau hub hdr hlx hub2 hset hidx
      generalize uk % 16 = d at *
      go_wp2
      obtain ⟨h1, h2, h3, h4⟩ := HN.out
      refine ⟨⟨uk / 16, j, a / 16, Tk.lx d :: l, A.setIfInBounds j (.int .u8 ((Tk.lx d).toNat : Int)), rfl, rfl, ?_, by omega, by simp; omega, by omega, hdv.1, by omega, Lib.hid ⟨h1, h2, h3, h4⟩⟩, ?_⟩
      · rw [← hdig.out (by show d < 36; omega)]
      · simp only [intOf]; omega
    · have hub16 : uk < 16 := by omega
      have ha16 : a < 16 := by omega
      have hmod : uk % 16 = uk := Nat.mod_eq_of_lt hub16
      have hset := Tk.set_drop (i := j) (by omega) hdr (Value.int .u8 ((Tk.lx uk).toNat : Int))
      have hcv := fun cap => convert_drop (W := w) (b := 0) (t := 168) (l := Tk.lx uk :: l) (i := j) (by simpa using hAs) (by simp; omega) hset.1 cap
      rw [List.length_cons] at hcv
      have hal : Tryz.prog.arrayLen 168 = 65 := by simp [Program.arrayLen, Tryz.underlying168]
      have hsl : ∀ W, (Instr.sliceAt 168 (.pointer (some ⟨w.heap.size, 0, none⟩)) (some (.int .i64 (j : Int))) none none).run Tryz.prog W = .ok (.slice (some ⟨w.heap.size, j, none⟩) (l.length + 1) (l.length + 1)) W := fun W => by
        rw [run_sliceAt_array_l W 168 ⟨w.heap.size, 0, none⟩ (by simp [Program.arrayLen, Program.elem, Tryz.underlying168]) .i64 (j : Int) (by omega) (by rw [hal]; omega), hal]
        go_simp
        omega
      have hlxu : Tk.lexN16 u = Tk.lx uk :: l := by rw [hlx, Tk.lexN16_small hub16]; rfl
      have hz2 := hset.2
      have hdig := Tk.digs_at uk hub16
      unfold Tk.digs36 at hdig
      have hjA : j < A.size := by omega
      obtain ⟨v0, hv0⟩ : ∃ v0, A[j]? = some v0 := ⟨A[j], Array.getElem?_eq_getElem hjA⟩
      have HX := Lib.hid hlxu
      clear hub hdr hlx hset hlxu hand hdl hge hmod ha16 hidx hal
      subst hau
      clear ha0 ha1
      go_wp2
      go_ret2
      refine ⟨?_, more_of_below (by repeat' (first | (with_reducible exact Below.refl _ _) | (with_reducible assumption) | (with_reducible refine below_more ?_ ?_ _) | (with_reducible refine below_drewN ?_ _) | (with_reducible refine Below.drew ?_) | (with_reducible refine Below.alloc ?_ ?_ _) | (with_reducible refine Below.setCell ?_ ?_ _) | go_size | (simp [more_size]; done) | (simp [more_size]; omega)))⟩
      rw [HX.out]
      rfl
theorem fu16i_any (u : Nat) (hu : u < 4294967296) (w : World) (hdb : w.cell? ⟨9, 15, none⟩ = some (.int .u8 4)) :
    Calls Tryz.prog 82 #[.int .u64 u, .int .i64 16] w fun e w' => e = .returned (.string ⟨(Tk.lexN16 u).toArray⟩) ∧ ∃ g, w' = more w g := by
  have hF := Lib.hid (fun W h => fb16_any u hu W h)
  go_enter Tryz.func82, Tryz.ntmps82
  go_wp2_with (go_at_call 109; (with_reducible refine (hF.out _ ?_).mono ?_); (focus (exact hdb)); rintro e w2 ⟨rfl, g, rfl⟩)
  go_ret
  exact ⟨rfl, _, rfl⟩
theorem fu16_any (u : Nat) (hu : u < 4294967296) (w : World) (hdb : w.cell? ⟨9, 15, none⟩ = some (.int .u8 4)) :
    Calls Tryz.prog 58 #[.int .u64 u, .int .i64 16] w fun e w' => e = .returned (.string ⟨(Tk.lexN16 u).toArray⟩) ∧ ∃ g, w' = more w g := by
  have hF := Lib.hid (fun W h => fu16i_any u hu W h)
  go_enter Tryz.func58, Tryz.ntmps58
  go_wp2_with (go_at_call 82; (with_reducible refine (hF.out _ ?_).mono ?_); (focus (exact hdb)); rintro e w2 ⟨rfl, g, rfl⟩)
  go_ret
  exact ⟨rfl, _, rfl⟩
namespace As
theorem lx_same (d : Nat) (h : d < 16) : Tk.lx d = lx d := by
  have : ∀ d : Fin 16, Tk.lx d.1 = lx d.1 := by decide
  exact this ⟨d, h⟩
/-- eight digits: noughts, then the number's own -/
theorem hex8_lex (k : Nat) : ∀ u : Nat, u < 16 ^ (k + 1) → hexK (k + 1) (u : Int) = List.replicate (k + 1 - (Tk.lexN16 u).length) 48 ++ Tk.lexN16 u ∧ (Tk.lexN16 u).length ≤ k + 1 := by
  induction k with
  | zero =>
    intro u h
    have hu : u < 16 := by simpa using h
    rw [Tk.lexN16_small hu]
    simp only [hexK, List.length_singleton]
    have e : ((u : Int) % 16).toNat = u := by omega
    rw [e, lx_same u hu]
    simp
  | succ k ih =>
    intro u h
    by_cases hu : u < 16
    · have h0 := ih 0 (Nat.pow_pos (by decide))
      have e : ((u : Int) / 16) = ((0 : Nat) : Int) := by omega
      have e2 : ((u : Int) % 16).toNat = u := by omega
      rw [Tk.lexN16_small (show 0 < 16 by decide)] at h0
      rw [hexK, e, h0.1, Tk.lexN16_small hu, e2, lx_same u hu]
      refine ⟨?_, by simp⟩
      simp only [List.length_singleton]
      have : Tk.lx 0 = 48 := by decide
      rw [this, show k + 1 + 1 - 1 = (k + 1 - 1) + 1 by omega, List.replicate_succ']
    · have hq : u / 16 < 16 ^ (k + 1) := by
        rw [Nat.pow_succ] at h
        exact Nat.div_lt_of_lt_mul (by rw [Nat.mul_comm]; exact h)
      obtain ⟨h1, h2⟩ := ih (u / 16) hq
      have e : ((u : Int) / 16) = ((u / 16 : Nat) : Int) := by omega
      have e2 : ((u : Int) % 16).toNat = u % 16 := by omega
      rw [hexK, e, h1, Tk.lexN16_big hu, e2, ← lx_same (u % 16) (Nat.mod_lt _ (by decide))]
      refine ⟨?_, by simp; omega⟩
      rw [List.append_assoc]
      congr 2
      simp
end As
end Go.Proofs.YtcckbmmjklahfaaGreatDoor

namespace Go.Proofs.YtcckbmmjklahfaaGreatDoor
set_option linter.all false
open Go.RowKit
theorem As.rep48 (c : Nat) : Lib.repeatL [48] c = List.replicate c 48 := by
  induction c with
  | zero => rfl
  | succ c ih => rw [Lib.repeatL, ih]; rfl
theorem repeat_any (k : Nat) (hk : k ≤ 100) (z : Int) (hz : z = (k : Int)) (w : World) :
    Calls Tryz.prog 59 #[.string ⟨#[48]⟩, .int .i64 z] w fun e w' => e = .returned (.string ⟨(List.replicate k 48).toArray⟩) ∧ ∃ g, w' = more w g := by
  subst hz
  refine (Tryz.strings_Repeat ⟨#[48]⟩ k w (by omega) (by show 1 * k ≤ _; omega)).mono ?_
  rintro e w' ⟨rfl, hb⟩
  refine ⟨?_, more_of_below hb⟩
  rw [show (⟨#[48]⟩ : ByteArray).data.toList = [48] from rfl, As.rep48]
set_option maxRecDepth 100000 in
theorem raw_any (z : Int) (h0 : 0 ≤ z) (h1 : z < 4294967296) (w : World) (hg : Ga w) :
    Calls Tryz.prog 28 #[.int .u32 z] w fun e w' => e = .returned (.string ⟨(35 :: As.hex8 z).toArray⟩) ∧ ∃ g, w' = more w g := by
  obtain ⟨u, rfl⟩ := Int.eq_ofNat_of_zero_le h0
  have hu : u < 4294967296 := by omega
  obtain ⟨e8, l8⟩ := As.hex8_lex 7 u (by omega)
  have HF := Lib.hid (fun w (hg : Ga w) => fu16_any u hu w hg.db)
  obtain ⟨D, hD⟩ : ∃ D : ByteArray, D = ⟨(Tk.lexN16 u).toArray⟩ := ⟨_, rfl⟩
  have hDs : D.size = (Tk.lexN16 u).length := by rw [hD]; show (Tk.lexN16 u).toArray.size = _; simp
  have HS := Lib.hid (show (⟨(35 :: As.hex8 (u : Int)).toArray⟩ : ByteArray) = ⟨#[35]⟩ ++ ⟨(List.replicate (8 - D.size) 48).toArray⟩ ++ D by
    apply ByteArray.ext
    have : As.hex8 (u : Int) = List.replicate (8 - D.size) 48 ++ Tk.lexN16 u := by rw [hDs]; exact e8
    rw [this, hD]
    simp [ByteArray.data_append])
  have hd8 : (D.size : Int) ≤ 8 := by omega
  have hR := Lib.hid (fun w => repeat_any (8 - D.size) (by omega) (8 - (D.size : Int)) (by omega) w)
  have hrz : (⟨(List.replicate (8 - D.size) (48 : UInt8)).toArray⟩ : ByteArray).size ≤ 8 := by show (List.replicate (8 - D.size) (48 : UInt8)).toArray.size ≤ 8; simp
  rw [← hD] at HF
  rw [HS.out]
  generalize (⟨(List.replicate (8 - D.size) (48 : UInt8)).toArray⟩ : ByteArray) = R at *
  obtain ⟨z, hz⟩ : ∃ z : Int, z = (u : Int) := ⟨_, rfl⟩
  rw [← hz]
  have HF2 := Lib.hid (show ∀ w, Ga w → Calls Tryz.prog 58 #[.int .u64 z, .int .i64 16] w fun e w' => e = .returned (.string D) ∧ ∃ g, w' = more w g from fun w hg => by rw [hz]; exact HF.out w hg)
  have z0 : 0 ≤ z := by omega
  have z1 : z < 4294967296 := by omega
  have HG := Lib.hid hg
  clear HF hz hD hDs HS e8 l8 hu h0 h1 hg
  go_enter Tryz.func28, Tryz.ntmps28
  go_wp2_with (first | (go_at_call 58; (with_reducible refine (HF2.out _ HG.out).mono ?_); rintro e w2 ⟨rfl, g, rfl⟩) | (go_at_call 59; (with_reducible refine (hR.out _).mono ?_); rintro e w2 ⟨rfl, g2, rfl⟩))
  go_ret
  exact ⟨rfl, more_of_below (by repeat' (first | (with_reducible exact Below.refl _ _) | (with_reducible assumption) | (with_reducible refine below_more ?_ ?_ _) | (with_reducible refine below_drewN ?_ _) | (with_reducible refine Below.drew ?_) | (with_reducible refine Below.alloc ?_ ?_ _) | (with_reducible refine Below.setCell ?_ ?_ _) | go_size | (simp [more_size]; done) | (simp [more_size]; omega)))⟩
end Go.Proofs.YtcckbmmjklahfaaGreatDoor

namespace Go.Proofs.YtcckbmmjklahfaaGreatDoor
set_option linter.all false
open Go.RowKit
namespace As
/-- what ParseUint tells of a text of bytes bs -/
def PU (bs : List UInt8) (e : Ending) : Prop := ∃ (v : Int) (er : Value), e = .returned (.tuple #[.int .u64 v, er]) ∧ 0 ≤ v ∧ v < 4294967296 ∧ (er = .nilIface ∨ er = .iface 132 (.int .i64 1) ∨ er = .iface 132 (.int .i64 2)) ∧ (bs ≠ [] → ∀ z, unhexF 0 bs = some z → z < 4294967296 → v = z ∧ er = .nilIface)
/-- while the first bytes are read -/
def PIn (bs : List UInt8) (a : Int) (rest : List UInt8) : Prop := ∀ z, unhexF 0 bs = some z → z < 4294967296 → unhexF a rest = some z
theorem unhexF_le (l : List UInt8) : ∀ (a z : Int), 0 ≤ a → unhexF a l = some z → a ≤ z := by
  induction l with
  | nil => intro a z ha h; simp [unhexF] at h; omega
  | cons c t ih =>
    intro a z ha h
    simp only [unhexF] at h
    cases hc : ux c with
    | none => rw [hc] at h; cases h
    | some d => rw [hc] at h; have := ih _ _ (by omega) h; omega
theorem pin_no {bs rest : List UInt8} {a : Int} {c : UInt8} (h : PIn bs a (c :: rest)) (hc : ux c = none) : ∀ z, unhexF 0 bs = some z → z < 4294967296 → False := fun z hz hl => by
  have := h z hz hl
  simp only [unhexF, hc] at this
  cases this
theorem pin_next {bs rest : List UInt8} {a : Int} {c : UInt8} (h : PIn bs a (c :: rest)) (d : Nat) (hd : ∀ e, ux c = some e → e = d) : PIn bs (a * 16 + d) rest := fun z hz hl => by
  have := h z hz hl
  simp only [unhexF] at this
  cases hc : ux c with
  | none => rw [hc] at this; cases this
  | some e => rw [hc] at this; rw [← hd e hc]; exact this
theorem pin_over {bs rest : List UInt8} {a : Int} (h : PIn bs a rest) (ha : 4294967296 ≤ a) : ∀ z, unhexF 0 bs = some z → z < 4294967296 → False := fun z hz hl => by
  have := unhexF_le rest a z (by omega) (h z hz hl)
  omega
theorem ux_dec {c : UInt8} (h1 : 48 ≤ c.toNat) (h2 : c.toNat ≤ 57) : ∀ e, ux c = some e → e = c.toNat - 48 := fun e h => by
  unfold ux at h
  rw [if_pos ⟨h1, h2⟩] at h
  simpa using h.symm
theorem ux_hex {c : UInt8} (h1 : ¬ (48 ≤ c.toNat ∧ c.toNat ≤ 57)) {r : Nat} (hr : 97 ≤ c.toNat ∧ c.toNat ≤ 102 → r = c.toNat) : ∀ e, ux c = some e → e = r - 87 := fun e h => by
  unfold ux at h
  rw [if_neg h1] at h
  split at h
  · rename_i h3; rw [hr h3]; simpa using h.symm
  · cases h
theorem ux_out {c : UInt8} (h1 : ¬ (48 ≤ c.toNat ∧ c.toNat ≤ 57)) (h2 : ¬ (97 ≤ c.toNat ∧ c.toNat ≤ 102)) : ux c = none := by
  unfold ux
  rw [if_neg h1, if_neg h2]
theorem low_all : ∀ c : Fin 256, c.1 ||| 32 < 256 ∧ (97 ≤ c.1 → c.1 ≤ 102 → c.1 ||| 32 = c.1) ∧ (c.1 = 95 → 122 < c.1 ||| 32) := by decide +kernel
end As
theorem lower_at (c : Nat) (hc : c < 256) (w : World) : Calls Tryz.prog 97 #[.int .u8 (c : Int)] w fun e w' => e = .returned (.int .u8 (((c ||| 32 : Nat) : Int))) ∧ w' = w := by
  have hb : bits .or .u8 (c : Int) 32 = ((c ||| 32 : Nat) : Int) := by
    have := u8_or_nat c 32 (by omega) (by omega)
    simpa using this
  have hl := (As.low_all ⟨c, hc⟩).1
  simp only at hl
  generalize c ||| 32 = r at *
  go_enter Tryz.func97, Tryz.ntmps97
  go_wp2
  go_ret
  exact ⟨rfl, rfl⟩
end Go.Proofs.YtcckbmmjklahfaaGreatDoor

namespace Go.Proofs.YtcckbmmjklahfaaGreatDoor
set_option linter.all false
open Go.RowKit
set_option maxHeartbeats 32000000 in
set_option maxRecDepth 100000 in
theorem puin_any (t : ByteArray) (hne : t.size ≠ 0) (hmax : t.size < 4294967281) (w : World) :
    Calls Tryz.prog 77 #[.string t, .int .i64 16, .int .i64 32] w fun e w' => As.PU t.data.toList e ∧ ∃ g, w' = more w g := by
  have hemp : t.toList.isEmpty = false := by
    rw [← decide_eq_emptyBytes]
    exact decide_eq_false (fun h => hne (by rw [h]; rfl))
  have hcv := Lib.run_convert_string_bytes (P := Tryz.prog) w 9 57 5 t (u := .string) Tryz.underlying9 Tryz.underlying57 Tryz.underlying5
  have hB : ∀ j, j < t.size → (Lib.bytesWorld w 5 t).cell? ⟨w.heap.size, j, none⟩ = some (.int .u8 (t.data.toList.getD j 0).toNat) := fun j hj => Lib.bytesWorld_cell w 5 t j hj
  have hbel : Below w.heap.size w (Lib.bytesWorld w 5 t) := Lib.bytesWorld_below _ _ _
  obtain ⟨W1, hW1⟩ : ∃ W1, W1 = Lib.bytesWorld w 5 t := ⟨_, rfl⟩
  rw [← hW1] at hcv hB hbel
  have hend := Lib.hid (more_of_below hbel)
  clear hW1 hbel
  obtain ⟨bs, hL⟩ : ∃ bs, bs = t.data.toList := ⟨_, rfl⟩
  have hLn : bs.length = t.size := by rw [hL]; simp
  rw [← hL] at hB ⊢
  clear hL
  replace hB := Lib.hid hB
  have hmv : IntKind.u64.wrap (IntKind.u64.wrap (4294967295 + 1) - 1) = 4294967295 := by
    rw [IntKind.wrap_u64, IntKind.wrap_u64]
    decide
  simp only [Int.reduceAdd] at hmv
  go_enter Tryz.func77, Tryz.ntmps77
  go_wp2
  go_loop [12, 13, 101] (fun vu vn vi => ∃ (k : Nat) (a : Int), vu = .bool false ∧ vn = .int .u64 a ∧ vi = .int .i64 k ∧ k ≤ t.size ∧ 0 ≤ a ∧ a ≤ 4294967295 ∧ Hid (As.PIn bs a (bs.drop k)))
    (fun _ _ vi => t.size - (intOf vi).toNat)
  case atStart => exact ⟨0, 0, rfl, rfl, rfl, by omega, by omega, by omega, Lib.hid (by unfold As.PIn; intro z hz _; exact hz)⟩
  case round =>
    obtain ⟨k, a, rfl, rfl, rfl, hk, a0, a1, HP⟩ := hrel
    by_cases hkn : k < t.size
    · have hc := hB.out k hkn
      have hdrop : bs.drop k = bs[k]'(by omega) :: bs.drop (k + 1) := List.drop_eq_getElem_cons (by omega)
      have hget : bs.getD k 0 = bs[k]'(by omega) := by simp [List.getD, List.getElem?_eq_getElem (show k < bs.length by omega)]
      have HP1 := HP.out
      rw [hdrop] at HP1
      rw [hget] at hc
      generalize bs[k]'(by omega) = c at hc HP1
      have hc256 : c.toNat < 256 := c.toNat_lt
      clear hdrop hget HP
      by_cases hd : 48 ≤ c.toNat ∧ c.toNat ≤ 57
      · have hd0 : (48 : Int) ≤ (c.toNat : Int) := by omega
        have hd1 : (c.toNat : Int) ≤ 57 := by omega
        have b95 : ((c.toNat : Int) == 95) = false := by simp; omega
        have HN := Lib.hid (show As.PIn bs (a * 16 + ((c.toNat : Int) - 48)) (bs.drop (k + 1)) by
          have := As.pin_next HP1 (c.toNat - 48) (As.ux_dec hd.1 hd.2)
          rw [show ((c.toNat - 48 : Nat) : Int) = (c.toNat : Int) - 48 by omega] at this
          exact this)
        clear hd HP1
        by_cases hov : 4294967295 < a * 16 + ((c.toNat : Int) - 48)
        · have HF := Lib.hid (As.pin_over HN.out (by omega))
          clear HN
          go_wp2
          go_ret2
          exact ⟨⟨_, _, rfl, by omega, by omega, .inr (.inl rfl), fun _ z hz hl => (HF.out z hz hl).elim⟩, hend.out⟩
        · have iov : a * 16 + ((c.toNat : Int) - 48) ≤ 4294967295 := by omega
          clear hov
          go_wp2
          refine ⟨⟨k + 1, a * 16 + ((c.toNat : Int) - 48), rfl, (by first | rfl | (congr 1; omega)), (by first | rfl | (congr 1; omega)), by omega, by omega, iov, HN⟩, by simp [intOf]; omega⟩
      · have HL := Lib.hid (fun w => lower_at c.toNat hc256 w)
        have hlow := As.low_all ⟨c.toNat, hc256⟩
        simp only at hlow
        obtain ⟨hr, hr2, hr3⟩ := hlow
        generalize c.toNat ||| 32 = r at *
        have hdd : (c.toNat : Int) < 48 ∨ 57 < (c.toNat : Int) := by omega
        by_cases hrr : 97 ≤ r ∧ r ≤ 122
        · have b95 : ((c.toNat : Int) == 95) = false := by simp; omega
          have q1 : (97 : Int) ≤ (r : Int) := by omega
          have q2 : (r : Int) ≤ 122 := by omega
          by_cases hr16 : r ≤ 102
          · have q3 : (r : Int) ≤ 102 := by omega
            have HN := Lib.hid (show As.PIn bs (a * 16 + ((r : Int) - 87)) (bs.drop (k + 1)) by
              have := As.pin_next HP1 (r - 87) (As.ux_hex hd (fun h => hr2 h.1 h.2))
              rw [show ((r - 87 : Nat) : Int) = (r : Int) - 87 by omega] at this
              exact this)
            clear HP1 hr2 hr3 hd hrr hr16
            by_cases hov : 4294967295 < a * 16 + ((r : Int) - 87)
            · have HF := Lib.hid (As.pin_over HN.out (by omega))
              clear HN
              rcases hdd with hdd | hdd
              all_goals
                go_wp2_with (go_at_call 97; (with_reducible refine (HL.out _).mono ?_); rintro e w' ⟨rfl, rfl⟩)
                go_ret2
                exact ⟨⟨_, _, rfl, by omega, by omega, .inr (.inl rfl), fun _ z hz hl => (HF.out z hz hl).elim⟩, hend.out⟩
            · have iov : a * 16 + ((r : Int) - 87) ≤ 4294967295 := by omega
              clear hov
              rcases hdd with hdd | hdd
              all_goals
                go_wp2_with (go_at_call 97; (with_reducible refine (HL.out _).mono ?_); rintro e w' ⟨rfl, rfl⟩)
                refine ⟨⟨k + 1, a * 16 + ((r : Int) - 87), rfl, (by first | rfl | (congr 1; omega)), (by first | rfl | (congr 1; omega)), by omega, by omega, iov, HN⟩, by simp [intOf]; omega⟩
          · have q3 : (102 : Int) < (r : Int) := by omega
            have HF := Lib.hid (As.pin_no HP1 (As.ux_out hd (fun h => hr16 (by rw [hr2 h.1 h.2]; exact h.2))))
            clear HP1 hr2 hr3 hd hrr hr16
            rcases hdd with hdd | hdd
            all_goals
              go_wp2_with (go_at_call 97; (with_reducible refine (HL.out _).mono ?_); rintro e w' ⟨rfl, rfl⟩)
              go_ret2
              exact ⟨⟨_, _, rfl, by omega, by omega, .inr (.inr rfl), fun _ z hz hl => (HF.out z hz hl).elim⟩, hend.out⟩
        · have HF := Lib.hid (As.pin_no HP1 (As.ux_out hd (fun h => hrr (by rw [hr2 h.1 h.2]; omega))))
          have hrs : (r : Int) < 97 ∨ 122 < (r : Int) := by omega
          clear HP1 hr2 hr3 hd hrr
          obtain ⟨bb, b95⟩ : ∃ bb, ((c.toNat : Int) == 95) = bb := ⟨_, rfl⟩
          cases bb
          all_goals
            rcases hdd with hdd | hdd
          all_goals
            rcases hrs with hrs | hrs
          all_goals
            go_wp2_with (go_at_call 97; (with_reducible refine (HL.out _).mono ?_); rintro e w' ⟨rfl, rfl⟩)
            all_goals go_ret2
            all_goals exact ⟨⟨_, _, rfl, by omega, by omega, .inr (.inr rfl), fun _ z hz hl => (HF.out z hz hl).elim⟩, hend.out⟩
    · have hkk : k = t.size := by omega
      subst hkk
      have HV := Lib.hid (show ∀ z, As.unhexF 0 bs = some z → z < 4294967296 → a = z by
        intro z hz hl
        have := HP.out z hz hl
        rw [List.drop_eq_nil_of_le (by omega)] at this
        simpa [As.unhexF] using this)
      clear HP
      go_wp2
      go_ret2
      exact ⟨⟨a, .nilIface, rfl, a0, by omega, .inl rfl, fun _ z hz hl => ⟨HV.out z hz hl, rfl⟩⟩, hend.out⟩
end Go.Proofs.YtcckbmmjklahfaaGreatDoor

namespace Go.Proofs.YtcckbmmjklahfaaGreatDoor
set_option linter.all false
open Go.RowKit
namespace As
/-- what ParseUint tells, from outside -/
def PO (bs : List UInt8) (e : Ending) : Prop := ∃ (v : Int) (er : Value), e = .returned (.tuple #[.int .u64 v, er]) ∧ 0 ≤ v ∧ v < 4294967296 ∧ (er = .nilIface ∨ ∃ te pe, er = .iface te pe) ∧ (bs ≠ [] → ∀ z, unhexF 0 bs = some z → z < 4294967296 → v = z ∧ er = .nilIface)
end As
set_option maxRecDepth 100000 in
theorem puin_none (w : World) : Calls Tryz.prog 77 #[.string ⟨#[]⟩, .int .i64 16, .int .i64 32] w fun e w' => As.PU [] e ∧ ∃ g, w' = more w g := by
  go_enter Tryz.func77, Tryz.ntmps77
  go_wp2
  go_ret2
  exact ⟨⟨_, _, rfl, by omega, by omega, .inr (.inr rfl), fun h => absurd rfl h⟩, more_refl _⟩
theorem puin_all (t : ByteArray) (hmax : t.size < 4294967281) (w : World) : Calls Tryz.prog 77 #[.string t, .int .i64 16, .int .i64 32] w fun e w' => As.PU t.data.toList e ∧ ∃ g, w' = more w g := by
  by_cases h : t.size = 0
  · have : t = ⟨#[]⟩ := by apply ByteArray.ext; apply Array.eq_empty_of_size_eq_zero; exact h
    subst this
    exact puin_none w
  · exact puin_any t h hmax w
theorem toErrR_any (t : ByteArray) (w : World) (hg : Ga w) (hmax : t.size < 4294967281) :
    Calls Tryz.prog 78 #[.string ⟨#[80, 97, 114, 115, 101, 85, 105, 110, 116]⟩, .string t, .int .i64 16, .int .i64 32, .iface 132 (.int .i64 1)] w fun e w' => (∃ te pe, e = .returned (.iface te pe)) ∧ ∃ g, w' = more w g := by
  obtain ⟨ev, h1, h2⟩ := hg.errR
  refine (Tryz.strconv_toError_range ⟨#[80, 97, 114, 115, 101, 85, 105, 110, 116]⟩ t 16 32 ev w (by omega) (by have := World.var?_cell g_err h1 0; simpa using this) h2).mono ?_
  rintro e w' ⟨N, rfl, _, _, hb⟩
  exact ⟨⟨_, _, rfl⟩, more_of_below hb⟩
theorem toErrS_any (t : ByteArray) (w : World) (hg : Ga w) (hmax : t.size < 4294967281) :
    Calls Tryz.prog 78 #[.string ⟨#[80, 97, 114, 115, 101, 85, 105, 110, 116]⟩, .string t, .int .i64 16, .int .i64 32, .iface 132 (.int .i64 2)] w fun e w' => (∃ te pe, e = .returned (.iface te pe)) ∧ ∃ g, w' = more w g := by
  obtain ⟨ev, h1, h2⟩ := hg.errS
  refine (Go.Proofs.Any.strconv_toError_syntax Tryz.laysC245 ⟨#[80, 97, 114, 115, 101, 85, 105, 110, 116]⟩ t 16 32 ev w (by omega) (by have := World.var?_cell g_errS h1 0; have h3 : w.cell? ⟨3, 0, none⟩ = some ev := (by simpa using this); exact h3) h2).mono ?_
  rintro e w' ⟨N, rfl, _, _, hb⟩
  exact ⟨⟨_, _, rfl⟩, more_of_below hb⟩
set_option maxRecDepth 100000 in
set_option maxHeartbeats 3200000 in
theorem pu_any (t : ByteArray) (hmax : t.size < 4294967281) (w : World) (hg : Ga w) :
    Calls Tryz.prog 53 #[.string t, .int .i64 16, .int .i64 32] w fun e w' => As.PO t.data.toList e ∧ ∃ g, w' = more w g := by
  have HP := Lib.hid (fun w => puin_all t hmax w)
  have HR := Lib.hid (fun w hg => toErrR_any t w hg hmax)
  have HS := Lib.hid (fun w hg => toErrS_any t w hg hmax)
  have HG := Lib.hid hg
  clear hg hmax
  go_enter Tryz.func53, Tryz.ntmps53
  go_wp2_with (go_at_call 77; (with_reducible refine (HP.out _).mono ?_); rintro e w2 ⟨⟨v, er, rfl, v0, v1, her, hval⟩, g, rfl⟩; replace hval := Lib.hid hval; replace her := Lib.hid her)
  rcases her.out with rfl | rfl | rfl
  · go_wp2
    go_ret2
    exact ⟨⟨_, _, rfl, v0, v1, .inl rfl, fun h z hz hl => ⟨(hval.out h z hz hl).1, rfl⟩⟩, more_of_below (by repeat' (first | (with_reducible exact Below.refl _ _) | (with_reducible assumption) | (with_reducible refine below_more ?_ ?_ _) | (with_reducible refine below_drewN ?_ _) | (with_reducible refine Below.drew ?_) | (with_reducible refine Below.alloc ?_ ?_ _) | (with_reducible refine Below.setCell ?_ ?_ _) | go_size | (simp [more_size]; done) | (simp [more_size]; omega)))⟩
  · go_wp2_with (go_at_call 78; (with_reducible refine (HR.out _ (HG.out.more _)).mono ?_); rintro e w2 ⟨⟨te, pe, rfl⟩, g2, rfl⟩)
    go_ret2
    exact ⟨⟨_, _, rfl, v0, v1, .inr ⟨_, _, rfl⟩, fun h z hz hl => by have := hval.out h z hz hl; simp at this⟩, more_of_below (by repeat' (first | (with_reducible exact Below.refl _ _) | (with_reducible assumption) | (with_reducible refine below_more ?_ ?_ _) | (with_reducible refine below_drewN ?_ _) | (with_reducible refine Below.drew ?_) | (with_reducible refine Below.alloc ?_ ?_ _) | (with_reducible refine Below.setCell ?_ ?_ _) | go_size | (simp [more_size]; done) | (simp [more_size]; omega)))⟩
  · go_wp2_with (go_at_call 78; (with_reducible refine (HS.out _ (HG.out.more _)).mono ?_); rintro e w2 ⟨⟨te, pe, rfl⟩, g2, rfl⟩)
    go_ret2
    exact ⟨⟨_, _, rfl, v0, v1, .inr ⟨_, _, rfl⟩, fun h z hz hl => by have := hval.out h z hz hl; simp at this⟩, more_of_below (by repeat' (first | (with_reducible exact Below.refl _ _) | (with_reducible assumption) | (with_reducible refine below_more ?_ ?_ _) | (with_reducible refine below_drewN ?_ _) | (with_reducible refine Below.drew ?_) | (with_reducible refine Below.alloc ?_ ?_ _) | (with_reducible refine Below.setCell ?_ ?_ _) | go_size | (simp [more_size]; done) | (simp [more_size]; omega)))⟩
end Go.Proofs.YtcckbmmjklahfaaGreatDoor
