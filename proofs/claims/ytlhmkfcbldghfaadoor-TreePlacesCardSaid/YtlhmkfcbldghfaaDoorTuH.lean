/- The walk of tree's parser's loop. Conditions: the parser's block is as it is made; shorter texts are read as they should be. -/
import Derived.Test.YtlhmkfcbldghfaaDoorTuFG
namespace Go.Proofs.YtlhmkfcbldghfaaDoor
set_option linter.all false
open Go.RowKit
namespace Fr
open Da Tr
def for3 (en : Int) (r : Rc) (p : Int) (tn : List UInt8) (es : List Ex) (l : List Tok) : Tr.R (Option St) := (skip en [68, 79] l).bind fun _ l7 => (r.st l7).bind fun s l8 => (skip en [69, 78, 68] l8).bind fun _ l9 => .ok (some (.mk 7 tn es [] [s] p)) l9
def for2 (en : Int) (r : Rc) (p : Int) (tn : List UInt8) (a c : Ex) (l : List Tok) : Tr.R (Option St) := (if isS [66, 89] l then (exprP en r l.tail).bind fun d l6 => .ok [d] l6 else .ok [] l).bind fun ds l6 => for3 en r p tn (a :: c :: ds) l6
def forP (en : Int) (r : Rc) (p : Int) (l : List Tok) : Tr.R (Option St) := (nameT en l).bind fun t l1 => (skip en [58, 61] l1).bind fun _ l2 => (exprP en r l2).bind fun a l3 => (skip en [84, 79] l3).bind fun _ l4 => (exprP en r l4).bind fun c l5 => for2 en r p t.2.1 a c l5
end Fr
set_option maxRecDepth 100000 in
set_option maxHeartbeats 16000000 in
theorem for_any (en : Int) (n : Nat) (r : Tr.Rc) (hC : Fr.CR en n r) (hE : Fr.CV 41 en n (Tr.exprP en r) Tr.VEx) (w0 w : World) (B bp sb : Nat) (p : Int) (l : List Tr.Tok) (hB : B ≤ w0.heap.size) (hl : l.length ≤ n)
    (hf : Fr.PF w0 B bp en l w [.blk sb [.int .i64 0, .string ⟨#[]⟩, .slice none 0 0, .slice none 0 0, .slice none 0 0, .int .i64 p]] []) :
    Calls Tryd.prog 62 #[.pointer (some ⟨bp, 0, none⟩), .pointer (some ⟨sb, 0, none⟩)] w fun e w' =>
      (∃ st l' k nm v2 v3 v4 d2 d3 d4 p', Fr.forP en r p l = .ok (some st) l' ∧ e = .returned (.tuple #[]) ∧ Fr.PF w0 B bp en l' w' [.blk sb [.int .i64 k, .string nm, v2, v3, v4, .int .i64 p']] [(v2, d2), (v3, d3), (v4, d4)] ∧ Tr.stD st = [.int k, .str nm.data.toList, d2, d3, d4, .int p']) ∨
      (∃ q, Fr.forP en r p l = .no q ∧ e = Tr.gone q ∧ Tr.Rd w0 bp w') := by
  obtain ⟨X, hX⟩ : ∃ X, X = Fr.forP en r p l := ⟨_, rfl⟩
  rw [show Fr.forP en r p l = X from hX.symm]
  unfold Fr.forP at hX
  have HX := Lib.hid hX
  have HB := Lib.hid hB
  have HF := Lib.hid hf
  have HL := Lib.hid (show l.length + 0 ≤ l.length from Nat.le_refl _)
  have HN := Lib.hid hl
  have HC := Lib.hid hC
  have HE := Lib.hid hE
  have hfl1 := Fr.fld_tok1
  clear hX hl hB hf hC hE
  go_enter Tryd.func62, Tryd.ntmps62
  go_wp2_with (first
    | (first | ((with_reducible refine Fr.is_store (T := 3) ?_); (first | ((refine Fr.wl_store1 0 HF.out Fr.tyInt rfl rfl rfl rfl rfl ?_ ?_); (focus (rfl)))); intro W1 HF1; simp only [Fr.setL, List.set_cons_zero, List.set_cons_succ] at HF1; replace HF := Lib.hid HF1; clear HF1) | ((with_reducible refine Fr.is_store (T := 9) ?_); (first | ((refine Fr.wl_store1 0 HF.out Fr.tyStr rfl rfl rfl rfl rfl ?_ ?_); (focus (rfl)))); intro W1 HF1; simp only [Fr.setL, List.set_cons_zero, List.set_cons_succ] at HF1; replace HF := Lib.hid HF1; clear HF1))
    | (first | ((with_reducible refine Fr.is_store (T := 36) ?_); (first | ((refine Fr.wl_store1 1 HF.out Fr.tySE rfl rfl rfl rfl rfl ?_ ?_); (focus (rfl)))); intro W1 HF1; simp only [Fr.setL, List.set_cons_zero, List.set_cons_succ] at HF1; replace HF := Lib.hid HF1; clear HF1))
    | (go_at_call 27; (with_reducible refine (name_any _ B bp en _ (Fr.PF.ps HF.out)).mono ?_); rintro e W1 ⟨hr, ⟨t, l1, v, hx, hps, rfl, hv⟩ | ⟨q, hx, rfl⟩⟩; (focus (obtain ⟨kd, tn, n2, q2⟩ := t; obtain rfl : v = .agg #[.int .i64 kd, .string ⟨tn.toArray⟩, .int .i64 n2, .int .i64 q2] := hv; have HX1 := HX.out; (try simp only [hx, ↓reduceIte, Bool.false_eq_true, Fr.bind_ok, Fr.bind_no] at HX1); replace HX := Lib.hid HX1; clear HX1; replace HL := Lib.hid (Fr.con_add (Tr.con_name en _) hx HL.out); replace HF := Lib.hid (Fr.PF.call HB.out HF.out hr hps); clear hr hps hx)); rotate_left; (focus (have HX1 := HX.out; (try simp only [hx, ↓reduceIte, Bool.false_eq_true, Fr.bind_ok, Fr.bind_no] at HX1); replace HX := Lib.hid HX1; clear HX1; have HR := Lib.hid (Tr.rd_trans (Fr.PF.rd HF.out) hr); clear hr hx)); rotate_left)
    | (go_at_call 26; (with_reducible refine (skip_any _ B bp en _ _ (Fr.PF.ps HF.out)).mono ?_); rintro e W1 ⟨hr, ⟨_, l2, v, hx, hps, rfl, rfl⟩ | ⟨q, hx, rfl⟩⟩; (focus (have HX1 := HX.out; (try simp only [hx, ↓reduceIte, Bool.false_eq_true, Fr.bind_ok, Fr.bind_no] at HX1); replace HX := Lib.hid HX1; clear HX1; replace HL := Lib.hid (Fr.con_add (Tr.con_skip en _ _) hx HL.out); replace HF := Lib.hid (Fr.PF.call HB.out HF.out hr hps); clear hr hps hx)); rotate_left; (focus (have HX1 := HX.out; (try simp only [hx, ↓reduceIte, Bool.false_eq_true, Fr.bind_ok, Fr.bind_no] at HX1); replace HX := Lib.hid HX1; clear HX1; have HR := Lib.hid (Tr.rd_trans (Fr.PF.rd HF.out) hr); clear hr hx)); rotate_left)
    | (go_at_call 41; (with_reducible refine (HE.out _ B bp _ (by have h1 := HL.out; have h2 := HN.out; (try have h3 := HM.out); omega) (Fr.PF.ps HF.out)).mono ?_); rintro e W1 ⟨hr, ⟨ta, l1, v, hx, hps, rfl, hV⟩ | ⟨q, hx, rfl⟩⟩; (focus (obtain ⟨k0, n0, tx0, op0, xs0, p0, va, rfl, hD, hdp, hd0⟩ := Fr.VEx.parts hV; have HX1 := HX.out; (try simp only [hx, ↓reduceIte, Bool.false_eq_true, Fr.bind_ok, Fr.bind_no] at HX1); replace HX := Lib.hid HX1; clear HX1; replace HL := Lib.hid (Fr.con_add (Tr.con_expr en HC.out.ce.rg _) hx HL.out); have HF2 := Fr.PF.call HB.out HF.out hr hps; replace HF2 := Fr.Fm.since HF.out HF2 hd0; replace HF := Lib.hid HF2; clear HF2 hr hps hx hd0)); rotate_left; (focus (have HX1 := HX.out; (try simp only [hx, ↓reduceIte, Bool.false_eq_true, Fr.bind_ok, Fr.bind_no] at HX1); replace HX := Lib.hid HX1; clear HX1; have HR := Lib.hid (Tr.rd_trans (Fr.PF.rd HF.out) hr); clear hr hx)); rotate_left)
    | ((with_reducible refine Fr.is_lit ?_); (refine Fr.wl_litR HF.out Tryd.underlying36 Fr.tyE (by simp) (by simp) rfl rfl rfl (Tr.exD ta) ?_ ?_); (focus (rw [hD]; (repeat' (first | exact Da.row_nil _ _ | exact Da.Is.int _ | exact Da.Is.str _ | exact HF.out.da 0 _ _ rfl | refine Da.row_cons ?_ ?_)))); intro b W1 HF1; replace HF := Lib.hid HF1; clear HF1))
  all_goals first | (exact ⟨rfl, .inr ⟨_, HX.out, rfl, HR.out⟩⟩) | skip
  obtain ⟨te, hte⟩ : ∃ te, te = ta := ⟨_, rfl⟩
  subst hte
  clear hD hdp hV
  obtain ⟨pl, hpl⟩ : ∃ pl : Option Addr, pl = some ⟨b, 0, none⟩ := ⟨_, rfl⟩
  obtain ⟨cl, hcl⟩ : ∃ cl : Nat, cl = 1 := ⟨_, rfl⟩
  replace HF := Lib.hid (show Fr.PF w0 B bp en l2 _ [.blk sb [.int .i64 7, .string ⟨tn.toArray⟩, .slice pl 1 cl, .slice none 0 0, .slice none 0 0, .int .i64 p], .row (.slice pl 1 cl) 44 6 [Tr.exD te]] [] from by rw [hpl, hcl]; exact HF.out.pick [1, 0] [] (by decide) (by simp) (by simp))
  clear hpl hcl
  have hlt1 : ((1 : Nat) : Int) < ((1 : Nat) : Int) + 1 := by omega
  go_cut [] from 2 to 58 (fun wc => ∃ (ta : Tr.Ex) (l1 : List Tr.Tok) (ve : Value), RowKit.Hid (X = Fr.for2 en r p tn te ta l1) ∧ RowKit.Hid (l1.length + (0 + 1) ≤ l.length) ∧ RowKit.Hid (Fr.PF w0 B bp en l1 wc [.blk sb [.int .i64 7, .string ⟨tn.toArray⟩, ve, .slice none 0 0, .slice none 0 0, .int .i64 p], .row ve 44 6 ([Tr.exD te] ++ [Tr.exD ta])] []))
  case first =>
    replace HF := Lib.hid HF.out.drew
    refine wp_region_G (UpTo 13 (fun X => sb < X.heap.size ∧ X.cell? ⟨sb, 2, none⟩ = some (.slice pl (1) cl))) 14 (by kernel_rfl) (by kernel_rfl) (fun _ => ⟨HF.out.ltAt 0 rfl, HF.out.cellAt 0 rfl 2 rfl⟩) (fun _ hS => ?_)
    generalize World.drew _ = W1 at HF hS ⊢
    refine wpAnyG_take (n := 14) (i := 0) (v := ?_) rfl (by kernel_rfl) (by kernel_rfl) (by kernel_rfl) (by kernel_rfl) (upTo_put (by decide)) (fun _ _ _ h => h) (closed_all (by kernel_rfl)) (Or.inl ⟨by rfl, ?_⟩) hS (fun _ hS' => ?_)
    rotate_left 1
    · intro X hX'
      clear hX'
      go_simp
      try with_reducible rfl
    try simp only [Act.put, List.setIfInBounds_toArray, List.set_cons_zero, List.set_cons_succ]
    clear hS; have hS := hS'; clear hS'
    refine wpAnyG_take (n := 14) (i := 1) (v := ?_) rfl (by kernel_rfl) (by kernel_rfl) (by kernel_rfl) (by kernel_rfl) (upTo_put (by decide)) (fun _ _ _ h => h) (closed_all (by kernel_rfl)) (Or.inl ⟨by rfl, ?_⟩) hS (fun _ hS' => ?_)
    rotate_left 1
    · intro X hX'
      clear hX'
      go_simp
      try with_reducible rfl
    try simp only [Act.put, List.setIfInBounds_toArray, List.set_cons_zero, List.set_cons_succ]
    clear hS; have hS := hS'; clear hS'
    refine wpAnyG_take (n := 14) (i := 2) (v := ?_) rfl (by kernel_rfl) (by kernel_rfl) (by kernel_rfl) (by kernel_rfl) (upTo_put (by decide)) (fun _ _ _ h => h) (closed_all (by kernel_rfl)) (Or.inl ⟨by rfl, ?_⟩) hS (fun _ hS' => ?_)
    rotate_left 1
    · intro X hX'
      clear hX'
      go_simp
      try with_reducible rfl
    try simp only [Act.put, List.setIfInBounds_toArray, List.set_cons_zero, List.set_cons_succ]
    clear hS; have hS := hS'; clear hS'
    refine wpAnyG_take (n := 14) (i := 3) (v := ?_) rfl (by kernel_rfl) (by kernel_rfl) (by kernel_rfl) (by kernel_rfl) (upTo_put (by decide)) (fun _ _ _ h => h) (closed_all (by kernel_rfl)) (Or.inl ⟨by rfl, ?_⟩) hS (fun _ hS' => ?_)
    rotate_left 1
    · intro X hX'
      have xb := upTo_star (ch := [3]) (by kernel_rfl) rfl hX'
      clear hX'
      go_simp
      try with_reducible rfl
    try simp only [Act.put, List.setIfInBounds_toArray, List.set_cons_zero, List.set_cons_succ]
    clear hS; have hS := hS'; clear hS'
    refine wpAnyG_take (n := 14) (i := 4) (v := ?_) rfl (by kernel_rfl) (by kernel_rfl) (by kernel_rfl) (by kernel_rfl) (upTo_put (by decide)) (fun _ _ _ h => h) (closed_all (by kernel_rfl)) (Or.inl ⟨by rfl, ?_⟩) hS (fun _ hS' => ?_)
    rotate_left 1
    · intro X hX'
      clear hX'
      go_simp
      try with_reducible rfl
    try simp only [Act.put, List.setIfInBounds_toArray, List.set_cons_zero, List.set_cons_succ]
    clear hS; have hS := hS'; clear hS'
    refine wpAnyG_take (n := 14) (i := 6) (v := ?_) rfl (by kernel_rfl) (by kernel_rfl) (by kernel_rfl) (by kernel_rfl) (upTo_put (by decide)) (fun _ _ _ h => h) (closed_all (by kernel_rfl)) (Or.inl ⟨by rfl, ?_⟩) hS (fun _ hS' => ?_)
    rotate_left 1
    · intro X hX'
      clear hX'
      go_simp
      try with_reducible rfl
    try simp only [Act.put, List.setIfInBounds_toArray, List.set_cons_zero, List.set_cons_succ]
    clear hS; have hS := hS'; clear hS'
    refine wpAnyG_ready (rs := [5, 7]) (by kernel_rfl) (by simp) ?_
    refine AllReadyG.cons rfl (fun K hK => ?_) (AllReadyG.cons rfl (fun K hK => ?_) AllReadyG.nil)
    · skip
      go_simp
      (go_at_call 41; (with_reducible refine (HE.out _ B bp _ (by have h1 := HL.out; have h2 := HN.out; (try have h3 := HM.out); omega) (Fr.PF.ps HF.out)).mono ?_); rintro e W1 ⟨hr, ⟨ta, l1, v, hx, hps, rfl, hV⟩ | ⟨q, hx, rfl⟩⟩; (focus (obtain ⟨k0, n0, tx0, op0, xs0, p0, va, rfl, hD, hdp, hd0⟩ := Fr.VEx.parts hV; have HX1 := HX.out; (try simp only [hx, ↓reduceIte, Bool.false_eq_true, Fr.bind_ok, Fr.bind_no] at HX1); replace HX := Lib.hid HX1; clear HX1; replace HL := Lib.hid (Fr.con_add (Tr.con_expr en HC.out.ce.rg _) hx HL.out); have HF2 := Fr.PF.call HB.out HF.out hr hps; replace HF2 := Fr.Fm.since HF.out HF2 hd0; replace HF := Lib.hid HF2; clear HF2 hr hps hx hd0)); rotate_left; (focus (have HX1 := HX.out; (try simp only [hx, ↓reduceIte, Bool.false_eq_true, Fr.bind_ok, Fr.bind_no] at HX1); replace HX := Lib.hid HX1; clear HX1; have HR := Lib.hid (Tr.rd_trans (Fr.PF.rd HF.out) hr); clear hr hx)); rotate_left)
      rotate_left
      · go_simp
        exact ⟨rfl, .inr ⟨_, HX.out, rfl, HR.out⟩⟩
      go_simp
      refine hK.out _ _ (fun _ => ⟨HF.out.ltAt 0 rfl, HF.out.cellAt 0 rfl 2 rfl⟩) (fun hS' => ?_)
      clear hK K hS; have hS := hS'; clear hS'
      try simp only [Act.put, List.setIfInBounds_toArray, List.set_cons_zero, List.set_cons_succ]
      refine wpAnyG_ready (rs := [7]) (by kernel_rfl) (by simp) ?_
      refine AllReadyG.cons rfl (fun K hK => ?_) AllReadyG.nil
      refine (if_pos (by rfl)).mpr ?_
      refine Fr.ow_lit1 HF.out Tryd.underlying36 Fr.tyE (by simp) (by simp) rfl rfl rfl rfl (row := Fr.dzE) Fr.row_zE ?_
      intro b1 W1 HF1
      replace HF := Lib.hid HF1; clear HF1
      refine hK.out _ _ (fun _ => ⟨HF.out.ltAt 0 rfl, HF.out.cellAt 0 rfl 2 rfl⟩) (fun hS' => ?_)
      clear hK K hS; have hS := hS'; clear hS'
      try simp only [Act.put, List.setIfInBounds_toArray, List.set_cons_zero, List.set_cons_succ]
      refine wpAnyG_ready (rs := [8]) (by kernel_rfl) (by simp) ?_
      refine AllReadyG.cons rfl (fun K hK => ?_) AllReadyG.nil
      refine (if_pos (by rfl)).mpr ?_
      refine Fr.ow_append 1 0 HF.out Tryd.underlying36 Fr.tyE (by simp) (by simp) rfl rfl rfl rfl rfl rfl ?_ ?_
      focus (simp)
      intro v1 W1 HF1
      simp only [Fr.setL, List.set_cons_zero, List.set_cons_succ] at HF1
      obtain ⟨bl, cap, rfl, hcp, hcm⟩ : ∃ b cap : Nat, v1 = .slice (some ⟨b, 0, none⟩) (1 + 1) cap ∧ 1 + 1 ≤ cap ∧ cap ≤ maxLen := by
        rcases HF1.rowForm (k := 1) rfl with ⟨h, _⟩ | h
        · simp at h
        · simpa [] using h
      replace HF := Lib.hid HF1
      clear HF1
      refine hK.out _ _ (fun _ => ⟨HF.out.ltAt 0 rfl, HF.out.cellAt 0 rfl 2 rfl⟩) (fun hS' => ?_)
      clear hK K hS; have hS := hS'; clear hS'
      try simp only [Act.put, List.setIfInBounds_toArray, List.set_cons_zero, List.set_cons_succ]
      refine wpAnyG_take (n := 14) (i := 9) (v := ?_) rfl (by kernel_rfl) (by kernel_rfl) (by kernel_rfl) (by kernel_rfl) (upTo_put (by decide)) (fun _ _ _ h => h) (closed_all (by kernel_rfl)) (Or.inl ⟨by rfl, ?_⟩) hS (fun _ hS' => ?_)
      rotate_left 1
      · intro X hX'
        clear hX'
        go_simp
        try with_reducible rfl
      try simp only [Act.put, List.setIfInBounds_toArray, List.set_cons_zero, List.set_cons_succ]
      clear hS; have hS := hS'; clear hS'
      refine wpAnyG_take (n := 14) (i := 11) (v := ?_) rfl (by kernel_rfl) (by kernel_rfl) (by kernel_rfl) (by kernel_rfl) (upTo_put (by decide)) (fun _ _ _ h => h) (closed_all (by kernel_rfl)) (Or.inl ⟨by rfl, ?_⟩) hS (fun _ hS' => ?_)
      rotate_left 1
      · intro X hX'
        clear hX'
        go_simp
        try with_reducible rfl
      try simp only [Act.put, List.setIfInBounds_toArray, List.set_cons_zero, List.set_cons_succ]
      clear hS; have hS := hS'; clear hS'
      refine wpAnyG_take (n := 14) (i := 12) (v := ?_) rfl (by kernel_rfl) (by kernel_rfl) (by kernel_rfl) (by kernel_rfl) (upTo_put (by decide)) (fun _ _ _ h => h) (closed_all (by kernel_rfl)) (Or.inl ⟨by rfl, ?_⟩) hS (fun _ hS' => ?_)
      rotate_left 1
      · intro X hX'
        clear hX'
        go_simp
        try with_reducible rfl
      try simp only [Act.put, List.setIfInBounds_toArray, List.set_cons_zero, List.set_cons_succ]
      clear hS; have hS := hS'; clear hS'
      refine wpAnyG_ready (rs := [10, 13]) (by kernel_rfl) (by simp) ?_
      refine AllReadyG.cons rfl (fun K hK => ?_) (AllReadyG.cons rfl (fun K hK => ?_) AllReadyG.nil)
      · skip
        refine (if_pos (by rfl)).mpr ?_
        refine Fr.ow_storeRow 1 HF.out Fr.tyE rfl rfl rfl (1) 0 (by first | rfl | simp | omega) (row := Fr.dzE) (by simp []) (by rw [hD]; simp) rfl rfl rfl (nd := Tr.exD ta) ?_ ?_
        focus (rw [hD]; (repeat' (first | exact Da.row_nil _ _ | exact Da.Is.int _ | exact Da.Is.str _ | exact HF.out.da 1 _ _ rfl | refine Da.row_cons ?_ ?_)))
        intro W1 HF1
        rw [Fr.set_zE hD] at HF1
        simp only [List.set_cons_zero, List.set_cons_succ] at HF1
        replace HF := Lib.hid HF1; clear HF1
        refine hK.out _ _ (fun _ => ⟨HF.out.ltAt 0 rfl, HF.out.cellAt 0 rfl 2 rfl⟩) (fun hS' => ?_)
        clear hK K hS; have hS := hS'; clear hS'
        try simp only [Act.put, List.setIfInBounds_toArray, List.set_cons_zero, List.set_cons_succ]
        refine wpAnyG_ready (rs := [13]) (by kernel_rfl) (by simp) ?_
        refine AllReadyG.cons rfl (fun K hK => ?_) AllReadyG.nil
        refine (if_pos (by rfl)).mpr ?_
        (first | ((refine Fr.ow_store1 0 HF.out Fr.tySE rfl rfl rfl rfl rfl rfl ?_ ?_); (focus (rfl))))
        intro W1 HF1
        simp only [Fr.setL, List.set_cons_zero, List.set_cons_succ] at HF1; replace HF := Lib.hid HF1; clear HF1
        refine hK.out _ _ (fun h => absurd h (by simp)) (fun hS' => ?_)
        clear hK K hS; have hS := hS'; clear hS'
        try simp only [Act.put, List.setIfInBounds_toArray, List.set_cons_zero, List.set_cons_succ]
        refine wpAnyG_done (by kernel_rfl) ?_ _
        clear hS
        go_wp2
        go_meet
        case rel => exact ⟨ta, l1, _, HX, Lib.hid (by have h1 := HL.out; omega), Lib.hid (by have h1 := HF.out; rw [show 1 = ([Tr.exD te]).length by simp [], Fr.last_set] at h1; exact h1.pick [0, 1] [] (by decide) (by simp) (by simp))⟩
      · skip
        refine (if_pos (by rfl)).mpr ?_
        (first | ((refine Fr.ow_store1 0 HF.out Fr.tySE rfl rfl rfl rfl rfl rfl ?_ ?_); (focus (rfl))))
        intro W1 HF1
        simp only [Fr.setL, List.set_cons_zero, List.set_cons_succ] at HF1; replace HF := Lib.hid HF1; clear HF1
        refine hK.out _ _ (fun h => absurd h (by simp)) (fun hS' => ?_)
        clear hK K hS; have hS := hS'; clear hS'
        try simp only [Act.put, List.setIfInBounds_toArray, List.set_cons_zero, List.set_cons_succ]
        refine wpAnyG_ready (rs := [10]) (by kernel_rfl) (by simp) ?_
        refine AllReadyG.cons rfl (fun K hK => ?_) AllReadyG.nil
        refine (if_pos (by rfl)).mpr ?_
        refine Fr.ow_storeRow 1 HF.out Fr.tyE rfl rfl rfl (1) 0 (by first | rfl | simp | omega) (row := Fr.dzE) (by simp []) (by rw [hD]; simp) rfl rfl rfl (nd := Tr.exD ta) ?_ ?_
        focus (rw [hD]; (repeat' (first | exact Da.row_nil _ _ | exact Da.Is.int _ | exact Da.Is.str _ | exact HF.out.da 1 _ _ rfl | refine Da.row_cons ?_ ?_)))
        intro W1 HF1
        rw [Fr.set_zE hD] at HF1
        simp only [List.set_cons_zero, List.set_cons_succ] at HF1
        replace HF := Lib.hid HF1; clear HF1
        refine hK.out _ _ (fun h => absurd h (by simp)) (fun hS' => ?_)
        clear hK K hS; have hS := hS'; clear hS'
        try simp only [Act.put, List.setIfInBounds_toArray, List.set_cons_zero, List.set_cons_succ]
        refine wpAnyG_done (by kernel_rfl) ?_ _
        clear hS
        go_wp2
        go_meet
        case rel => exact ⟨ta, l1, _, HX, Lib.hid (by have h1 := HL.out; omega), Lib.hid (by have h1 := HF.out; rw [show 1 = ([Tr.exD te]).length by simp [], Fr.last_set] at h1; exact h1.pick [0, 1] [] (by decide) (by simp) (by simp))⟩
    · skip
      refine (if_pos (by rfl)).mpr ?_
      refine Fr.ow_lit1 HF.out Tryd.underlying36 Fr.tyE (by simp) (by simp) rfl rfl rfl rfl (row := Fr.dzE) Fr.row_zE ?_
      intro b1 W1 HF1
      replace HF := Lib.hid HF1; clear HF1
      refine hK.out _ _ (fun _ => ⟨HF.out.ltAt 0 rfl, HF.out.cellAt 0 rfl 2 rfl⟩) (fun hS' => ?_)
      clear hK K hS; have hS := hS'; clear hS'
      try simp only [Act.put, List.setIfInBounds_toArray, List.set_cons_zero, List.set_cons_succ]
      refine wpAnyG_ready (rs := [5]) (by kernel_rfl) (by simp) ?_
      refine AllReadyG.cons rfl (fun K hK => ?_) AllReadyG.nil
      go_simp
      (go_at_call 41; (with_reducible refine (HE.out _ B bp _ (by have h1 := HL.out; have h2 := HN.out; (try have h3 := HM.out); omega) (Fr.PF.ps HF.out)).mono ?_); rintro e W1 ⟨hr, ⟨ta, l1, v, hx, hps, rfl, hV⟩ | ⟨q, hx, rfl⟩⟩; (focus (obtain ⟨k0, n0, tx0, op0, xs0, p0, va, rfl, hD, hdp, hd0⟩ := Fr.VEx.parts hV; have HX1 := HX.out; (try simp only [hx, ↓reduceIte, Bool.false_eq_true, Fr.bind_ok, Fr.bind_no] at HX1); replace HX := Lib.hid HX1; clear HX1; replace HL := Lib.hid (Fr.con_add (Tr.con_expr en HC.out.ce.rg _) hx HL.out); have HF2 := Fr.PF.call HB.out HF.out hr hps; replace HF2 := Fr.Fm.since HF.out HF2 hd0; replace HF := Lib.hid HF2; clear HF2 hr hps hx hd0)); rotate_left; (focus (have HX1 := HX.out; (try simp only [hx, ↓reduceIte, Bool.false_eq_true, Fr.bind_ok, Fr.bind_no] at HX1); replace HX := Lib.hid HX1; clear HX1; have HR := Lib.hid (Tr.rd_trans (Fr.PF.rd HF.out) hr); clear hr hx)); rotate_left)
      rotate_left
      · go_simp
        exact ⟨rfl, .inr ⟨_, HX.out, rfl, HR.out⟩⟩
      go_simp
      refine hK.out _ _ (fun _ => ⟨HF.out.ltAt 0 rfl, HF.out.cellAt 0 rfl 2 rfl⟩) (fun hS' => ?_)
      clear hK K hS; have hS := hS'; clear hS'
      try simp only [Act.put, List.setIfInBounds_toArray, List.set_cons_zero, List.set_cons_succ]
      refine wpAnyG_ready (rs := [8]) (by kernel_rfl) (by simp) ?_
      refine AllReadyG.cons rfl (fun K hK => ?_) AllReadyG.nil
      refine (if_pos (by rfl)).mpr ?_
      refine Fr.ow_append 1 1 HF.out Tryd.underlying36 Fr.tyE (by simp) (by simp) rfl rfl rfl rfl rfl rfl ?_ ?_
      focus (simp)
      intro v1 W1 HF1
      simp only [Fr.setL, List.set_cons_zero, List.set_cons_succ] at HF1
      obtain ⟨bl, cap, rfl, hcp, hcm⟩ : ∃ b cap : Nat, v1 = .slice (some ⟨b, 0, none⟩) (1 + 1) cap ∧ 1 + 1 ≤ cap ∧ cap ≤ maxLen := by
        rcases HF1.rowForm (k := 1) rfl with ⟨h, _⟩ | h
        · simp at h
        · simpa [] using h
      replace HF := Lib.hid HF1
      clear HF1
      refine hK.out _ _ (fun _ => ⟨HF.out.ltAt 0 rfl, HF.out.cellAt 0 rfl 2 rfl⟩) (fun hS' => ?_)
      clear hK K hS; have hS := hS'; clear hS'
      try simp only [Act.put, List.setIfInBounds_toArray, List.set_cons_zero, List.set_cons_succ]
      refine wpAnyG_take (n := 14) (i := 9) (v := ?_) rfl (by kernel_rfl) (by kernel_rfl) (by kernel_rfl) (by kernel_rfl) (upTo_put (by decide)) (fun _ _ _ h => h) (closed_all (by kernel_rfl)) (Or.inl ⟨by rfl, ?_⟩) hS (fun _ hS' => ?_)
      rotate_left 1
      · intro X hX'
        clear hX'
        go_simp
        try with_reducible rfl
      try simp only [Act.put, List.setIfInBounds_toArray, List.set_cons_zero, List.set_cons_succ]
      clear hS; have hS := hS'; clear hS'
      refine wpAnyG_take (n := 14) (i := 11) (v := ?_) rfl (by kernel_rfl) (by kernel_rfl) (by kernel_rfl) (by kernel_rfl) (upTo_put (by decide)) (fun _ _ _ h => h) (closed_all (by kernel_rfl)) (Or.inl ⟨by rfl, ?_⟩) hS (fun _ hS' => ?_)
      rotate_left 1
      · intro X hX'
        clear hX'
        go_simp
        try with_reducible rfl
      try simp only [Act.put, List.setIfInBounds_toArray, List.set_cons_zero, List.set_cons_succ]
      clear hS; have hS := hS'; clear hS'
      refine wpAnyG_take (n := 14) (i := 12) (v := ?_) rfl (by kernel_rfl) (by kernel_rfl) (by kernel_rfl) (by kernel_rfl) (upTo_put (by decide)) (fun _ _ _ h => h) (closed_all (by kernel_rfl)) (Or.inl ⟨by rfl, ?_⟩) hS (fun _ hS' => ?_)
      rotate_left 1
      · intro X hX'
        clear hX'
        go_simp
        try with_reducible rfl
      try simp only [Act.put, List.setIfInBounds_toArray, List.set_cons_zero, List.set_cons_succ]
      clear hS; have hS := hS'; clear hS'
      refine wpAnyG_ready (rs := [10, 13]) (by kernel_rfl) (by simp) ?_
      refine AllReadyG.cons rfl (fun K hK => ?_) (AllReadyG.cons rfl (fun K hK => ?_) AllReadyG.nil)
      · skip
        refine (if_pos (by rfl)).mpr ?_
        refine Fr.ow_storeRow 1 HF.out Fr.tyE rfl rfl rfl (1) 0 (by first | rfl | simp | omega) (row := Fr.dzE) (by simp []) (by rw [hD]; simp) rfl rfl rfl (nd := Tr.exD ta) ?_ ?_
        focus (rw [hD]; (repeat' (first | exact Da.row_nil _ _ | exact Da.Is.int _ | exact Da.Is.str _ | exact HF.out.da 0 _ _ rfl | refine Da.row_cons ?_ ?_)))
        intro W1 HF1
        rw [Fr.set_zE hD] at HF1
        simp only [List.set_cons_zero, List.set_cons_succ] at HF1
        replace HF := Lib.hid HF1; clear HF1
        refine hK.out _ _ (fun _ => ⟨HF.out.ltAt 0 rfl, HF.out.cellAt 0 rfl 2 rfl⟩) (fun hS' => ?_)
        clear hK K hS; have hS := hS'; clear hS'
        try simp only [Act.put, List.setIfInBounds_toArray, List.set_cons_zero, List.set_cons_succ]
        refine wpAnyG_ready (rs := [13]) (by kernel_rfl) (by simp) ?_
        refine AllReadyG.cons rfl (fun K hK => ?_) AllReadyG.nil
        refine (if_pos (by rfl)).mpr ?_
        (first | ((refine Fr.ow_store1 0 HF.out Fr.tySE rfl rfl rfl rfl rfl rfl ?_ ?_); (focus (rfl))))
        intro W1 HF1
        simp only [Fr.setL, List.set_cons_zero, List.set_cons_succ] at HF1; replace HF := Lib.hid HF1; clear HF1
        refine hK.out _ _ (fun h => absurd h (by simp)) (fun hS' => ?_)
        clear hK K hS; have hS := hS'; clear hS'
        try simp only [Act.put, List.setIfInBounds_toArray, List.set_cons_zero, List.set_cons_succ]
        refine wpAnyG_done (by kernel_rfl) ?_ _
        clear hS
        go_wp2
        go_meet
        case rel => exact ⟨ta, l1, _, HX, Lib.hid (by have h1 := HL.out; omega), Lib.hid (by have h1 := HF.out; rw [show 1 = ([Tr.exD te]).length by simp [], Fr.last_set] at h1; exact h1.pick [0, 1] [] (by decide) (by simp) (by simp))⟩
      · skip
        refine (if_pos (by rfl)).mpr ?_
        (first | ((refine Fr.ow_store1 0 HF.out Fr.tySE rfl rfl rfl rfl rfl rfl ?_ ?_); (focus (rfl))))
        intro W1 HF1
        simp only [Fr.setL, List.set_cons_zero, List.set_cons_succ] at HF1; replace HF := Lib.hid HF1; clear HF1
        refine hK.out _ _ (fun h => absurd h (by simp)) (fun hS' => ?_)
        clear hK K hS; have hS := hS'; clear hS'
        try simp only [Act.put, List.setIfInBounds_toArray, List.set_cons_zero, List.set_cons_succ]
        refine wpAnyG_ready (rs := [10]) (by kernel_rfl) (by simp) ?_
        refine AllReadyG.cons rfl (fun K hK => ?_) AllReadyG.nil
        refine (if_pos (by rfl)).mpr ?_
        refine Fr.ow_storeRow 1 HF.out Fr.tyE rfl rfl rfl (1) 0 (by first | rfl | simp | omega) (row := Fr.dzE) (by simp []) (by rw [hD]; simp) rfl rfl rfl (nd := Tr.exD ta) ?_ ?_
        focus (rw [hD]; (repeat' (first | exact Da.row_nil _ _ | exact Da.Is.int _ | exact Da.Is.str _ | exact HF.out.da 0 _ _ rfl | refine Da.row_cons ?_ ?_)))
        intro W1 HF1
        rw [Fr.set_zE hD] at HF1
        simp only [List.set_cons_zero, List.set_cons_succ] at HF1
        replace HF := Lib.hid HF1; clear HF1
        refine hK.out _ _ (fun h => absurd h (by simp)) (fun hS' => ?_)
        clear hK K hS; have hS := hS'; clear hS'
        try simp only [Act.put, List.setIfInBounds_toArray, List.set_cons_zero, List.set_cons_succ]
        refine wpAnyG_done (by kernel_rfl) ?_ _
        clear hS
        go_wp2
        go_meet
        case rel => exact ⟨ta, l1, _, HX, Lib.hid (by have h1 := HL.out; omega), Lib.hid (by have h1 := HF.out; rw [show 1 = ([Tr.exD te]).length by simp [], Fr.last_set] at h1; exact h1.pick [0, 1] [] (by decide) (by simp) (by simp))⟩
  case rest =>
    clear HF HX HL
    obtain ⟨tc, l2, ve, HX, HL, HF⟩ := hcut
    have HX1 := HX.out
    unfold Fr.for2 at HX1
    replace HX := Lib.hid HX1
    clear HX1
    go_wp2_with (first
      | (go_at_call 28; (with_reducible refine (Fr.took_split _ B bp en _ _ (Fr.PF.ps HF.out)).mono ?_); rintro e W1 ⟨hr, ⟨hs, rfl, hps⟩ | ⟨hs, rfl, hps⟩⟩; (focus (have HX1 := HX.out; (try simp only [hs, ↓reduceIte, Bool.false_eq_true, Fr.bind_ok, Fr.bind_no] at HX1); replace HX := Lib.hid HX1; clear HX1; replace HF := Lib.hid (Fr.PF.call HB.out HF.out hr hps); replace HL := Lib.hid (Fr.tail_add hs HL.out); clear hr hps hs)); rotate_left; (focus (have HX1 := HX.out; (try simp only [hs, ↓reduceIte, Bool.false_eq_true, Fr.bind_ok, Fr.bind_no] at HX1); replace HX := Lib.hid HX1; clear HX1; replace HF := Lib.hid (Fr.PF.call HB.out HF.out hr hps); clear hr hps hs)); rotate_left))
    · skip
      obtain ⟨pl, cl, rfl⟩ := HF.out.rowSlice (k := 1) rfl
      simp only [List.length_append, List.length_cons, List.length_nil, Nat.zero_add, Nat.reduceAdd] at HF ⊢
      have hlt1 : ((2 : Nat) : Int) < ((2 : Nat) : Int) + 1 := by omega
      go_cut [] from 2 to 58 (fun wc => ∃ (ta : Tr.Ex) (l1 : List Tr.Tok) (ve : Value), RowKit.Hid (X = Fr.for3 en r p tn [te, tc, ta] l1) ∧ RowKit.Hid (l1.length + (0 + 1) ≤ l.length) ∧ RowKit.Hid (Fr.PF w0 B bp en l1 wc [.blk sb [.int .i64 7, .string ⟨tn.toArray⟩, ve, .slice none 0 0, .slice none 0 0, .int .i64 p], .row ve 44 6 (([Tr.exD te] ++ [Tr.exD tc]) ++ [Tr.exD ta])] []))
      case first =>
        replace HF := Lib.hid HF.out.drew
        refine wp_region_G (UpTo 13 (fun X => sb < X.heap.size ∧ X.cell? ⟨sb, 2, none⟩ = some (.slice pl (2) cl))) 14 (by kernel_rfl) (by kernel_rfl) (fun _ => ⟨HF.out.ltAt 0 rfl, HF.out.cellAt 0 rfl 2 rfl⟩) (fun _ hS => ?_)
        generalize World.drew _ = W1 at HF hS ⊢
        refine wpAnyG_take (n := 14) (i := 0) (v := ?_) rfl (by kernel_rfl) (by kernel_rfl) (by kernel_rfl) (by kernel_rfl) (upTo_put (by decide)) (fun _ _ _ h => h) (closed_all (by kernel_rfl)) (Or.inl ⟨by rfl, ?_⟩) hS (fun _ hS' => ?_)
        rotate_left 1
        · intro X hX'
          clear hX'
          go_simp
          try with_reducible rfl
        try simp only [Act.put, List.setIfInBounds_toArray, List.set_cons_zero, List.set_cons_succ]
        clear hS; have hS := hS'; clear hS'
        refine wpAnyG_take (n := 14) (i := 1) (v := ?_) rfl (by kernel_rfl) (by kernel_rfl) (by kernel_rfl) (by kernel_rfl) (upTo_put (by decide)) (fun _ _ _ h => h) (closed_all (by kernel_rfl)) (Or.inl ⟨by rfl, ?_⟩) hS (fun _ hS' => ?_)
        rotate_left 1
        · intro X hX'
          clear hX'
          go_simp
          try with_reducible rfl
        try simp only [Act.put, List.setIfInBounds_toArray, List.set_cons_zero, List.set_cons_succ]
        clear hS; have hS := hS'; clear hS'
        refine wpAnyG_take (n := 14) (i := 2) (v := ?_) rfl (by kernel_rfl) (by kernel_rfl) (by kernel_rfl) (by kernel_rfl) (upTo_put (by decide)) (fun _ _ _ h => h) (closed_all (by kernel_rfl)) (Or.inl ⟨by rfl, ?_⟩) hS (fun _ hS' => ?_)
        rotate_left 1
        · intro X hX'
          clear hX'
          go_simp
          try with_reducible rfl
        try simp only [Act.put, List.setIfInBounds_toArray, List.set_cons_zero, List.set_cons_succ]
        clear hS; have hS := hS'; clear hS'
        refine wpAnyG_take (n := 14) (i := 3) (v := ?_) rfl (by kernel_rfl) (by kernel_rfl) (by kernel_rfl) (by kernel_rfl) (upTo_put (by decide)) (fun _ _ _ h => h) (closed_all (by kernel_rfl)) (Or.inl ⟨by rfl, ?_⟩) hS (fun _ hS' => ?_)
        rotate_left 1
        · intro X hX'
          have xb := upTo_star (ch := [3]) (by kernel_rfl) rfl hX'
          clear hX'
          go_simp
          try with_reducible rfl
        try simp only [Act.put, List.setIfInBounds_toArray, List.set_cons_zero, List.set_cons_succ]
        clear hS; have hS := hS'; clear hS'
        refine wpAnyG_take (n := 14) (i := 4) (v := ?_) rfl (by kernel_rfl) (by kernel_rfl) (by kernel_rfl) (by kernel_rfl) (upTo_put (by decide)) (fun _ _ _ h => h) (closed_all (by kernel_rfl)) (Or.inl ⟨by rfl, ?_⟩) hS (fun _ hS' => ?_)
        rotate_left 1
        · intro X hX'
          clear hX'
          go_simp
          try with_reducible rfl
        try simp only [Act.put, List.setIfInBounds_toArray, List.set_cons_zero, List.set_cons_succ]
        clear hS; have hS := hS'; clear hS'
        refine wpAnyG_take (n := 14) (i := 6) (v := ?_) rfl (by kernel_rfl) (by kernel_rfl) (by kernel_rfl) (by kernel_rfl) (upTo_put (by decide)) (fun _ _ _ h => h) (closed_all (by kernel_rfl)) (Or.inl ⟨by rfl, ?_⟩) hS (fun _ hS' => ?_)
        rotate_left 1
        · intro X hX'
          clear hX'
          go_simp
          try with_reducible rfl
        try simp only [Act.put, List.setIfInBounds_toArray, List.set_cons_zero, List.set_cons_succ]
        clear hS; have hS := hS'; clear hS'
        refine wpAnyG_ready (rs := [5, 7]) (by kernel_rfl) (by simp) ?_
        refine AllReadyG.cons rfl (fun K hK => ?_) (AllReadyG.cons rfl (fun K hK => ?_) AllReadyG.nil)
        · skip
          go_simp
          (go_at_call 41; (with_reducible refine (HE.out _ B bp _ (by have h1 := HL.out; have h2 := HN.out; (try have h3 := HM.out); omega) (Fr.PF.ps HF.out)).mono ?_); rintro e W1 ⟨hr, ⟨ta, l1, v, hx, hps, rfl, hV⟩ | ⟨q, hx, rfl⟩⟩; (focus (obtain ⟨k0, n0, tx0, op0, xs0, p0, va, rfl, hD, hdp, hd0⟩ := Fr.VEx.parts hV; have HX1 := HX.out; (try simp only [hx, ↓reduceIte, Bool.false_eq_true, Fr.bind_ok, Fr.bind_no] at HX1); replace HX := Lib.hid HX1; clear HX1; replace HL := Lib.hid (Fr.con_add (Tr.con_expr en HC.out.ce.rg _) hx HL.out); have HF2 := Fr.PF.call HB.out HF.out hr hps; replace HF2 := Fr.Fm.since HF.out HF2 hd0; replace HF := Lib.hid HF2; clear HF2 hr hps hx hd0)); rotate_left; (focus (have HX1 := HX.out; (try simp only [hx, ↓reduceIte, Bool.false_eq_true, Fr.bind_ok, Fr.bind_no] at HX1); replace HX := Lib.hid HX1; clear HX1; have HR := Lib.hid (Tr.rd_trans (Fr.PF.rd HF.out) hr); clear hr hx)); rotate_left)
          rotate_left
          · go_simp
            exact ⟨rfl, .inr ⟨_, HX.out, rfl, HR.out⟩⟩
          go_simp
          refine hK.out _ _ (fun _ => ⟨HF.out.ltAt 0 rfl, HF.out.cellAt 0 rfl 2 rfl⟩) (fun hS' => ?_)
          clear hK K hS; have hS := hS'; clear hS'
          try simp only [Act.put, List.setIfInBounds_toArray, List.set_cons_zero, List.set_cons_succ]
          refine wpAnyG_ready (rs := [7]) (by kernel_rfl) (by simp) ?_
          refine AllReadyG.cons rfl (fun K hK => ?_) AllReadyG.nil
          refine (if_pos (by rfl)).mpr ?_
          refine Fr.ow_lit1 HF.out Tryd.underlying36 Fr.tyE (by simp) (by simp) rfl rfl rfl rfl (row := Fr.dzE) Fr.row_zE ?_
          intro b1 W1 HF1
          replace HF := Lib.hid HF1; clear HF1
          refine hK.out _ _ (fun _ => ⟨HF.out.ltAt 0 rfl, HF.out.cellAt 0 rfl 2 rfl⟩) (fun hS' => ?_)
          clear hK K hS; have hS := hS'; clear hS'
          try simp only [Act.put, List.setIfInBounds_toArray, List.set_cons_zero, List.set_cons_succ]
          refine wpAnyG_ready (rs := [8]) (by kernel_rfl) (by simp) ?_
          refine AllReadyG.cons rfl (fun K hK => ?_) AllReadyG.nil
          refine (if_pos (by rfl)).mpr ?_
          refine Fr.ow_append 1 0 HF.out Tryd.underlying36 Fr.tyE (by simp) (by simp) rfl rfl rfl rfl rfl rfl ?_ ?_
          focus (simp)
          intro v1 W1 HF1
          simp only [Fr.setL, List.set_cons_zero, List.set_cons_succ] at HF1
          obtain ⟨bl, cap, rfl, hcp, hcm⟩ : ∃ b cap : Nat, v1 = .slice (some ⟨b, 0, none⟩) (2 + 1) cap ∧ 2 + 1 ≤ cap ∧ cap ≤ maxLen := by
            rcases HF1.rowForm (k := 1) rfl with ⟨h, _⟩ | h
            · simp at h
            · simpa [] using h
          replace HF := Lib.hid HF1
          clear HF1
          refine hK.out _ _ (fun _ => ⟨HF.out.ltAt 0 rfl, HF.out.cellAt 0 rfl 2 rfl⟩) (fun hS' => ?_)
          clear hK K hS; have hS := hS'; clear hS'
          try simp only [Act.put, List.setIfInBounds_toArray, List.set_cons_zero, List.set_cons_succ]
          refine wpAnyG_take (n := 14) (i := 9) (v := ?_) rfl (by kernel_rfl) (by kernel_rfl) (by kernel_rfl) (by kernel_rfl) (upTo_put (by decide)) (fun _ _ _ h => h) (closed_all (by kernel_rfl)) (Or.inl ⟨by rfl, ?_⟩) hS (fun _ hS' => ?_)
          rotate_left 1
          · intro X hX'
            clear hX'
            go_simp
            try with_reducible rfl
          try simp only [Act.put, List.setIfInBounds_toArray, List.set_cons_zero, List.set_cons_succ]
          clear hS; have hS := hS'; clear hS'
          refine wpAnyG_take (n := 14) (i := 11) (v := ?_) rfl (by kernel_rfl) (by kernel_rfl) (by kernel_rfl) (by kernel_rfl) (upTo_put (by decide)) (fun _ _ _ h => h) (closed_all (by kernel_rfl)) (Or.inl ⟨by rfl, ?_⟩) hS (fun _ hS' => ?_)
          rotate_left 1
          · intro X hX'
            clear hX'
            go_simp
            try with_reducible rfl
          try simp only [Act.put, List.setIfInBounds_toArray, List.set_cons_zero, List.set_cons_succ]
          clear hS; have hS := hS'; clear hS'
          refine wpAnyG_take (n := 14) (i := 12) (v := ?_) rfl (by kernel_rfl) (by kernel_rfl) (by kernel_rfl) (by kernel_rfl) (upTo_put (by decide)) (fun _ _ _ h => h) (closed_all (by kernel_rfl)) (Or.inl ⟨by rfl, ?_⟩) hS (fun _ hS' => ?_)
          rotate_left 1
          · intro X hX'
            clear hX'
            go_simp
            try with_reducible rfl
          try simp only [Act.put, List.setIfInBounds_toArray, List.set_cons_zero, List.set_cons_succ]
          clear hS; have hS := hS'; clear hS'
          refine wpAnyG_ready (rs := [10, 13]) (by kernel_rfl) (by simp) ?_
          refine AllReadyG.cons rfl (fun K hK => ?_) (AllReadyG.cons rfl (fun K hK => ?_) AllReadyG.nil)
          · skip
            refine (if_pos (by rfl)).mpr ?_
            refine Fr.ow_storeRow 1 HF.out Fr.tyE rfl rfl rfl (2) 0 (by first | rfl | simp | omega) (row := Fr.dzE) (by simp []) (by rw [hD]; simp) rfl rfl rfl (nd := Tr.exD ta) ?_ ?_
            focus (rw [hD]; (repeat' (first | exact Da.row_nil _ _ | exact Da.Is.int _ | exact Da.Is.str _ | exact HF.out.da 1 _ _ rfl | refine Da.row_cons ?_ ?_)))
            intro W1 HF1
            rw [Fr.set_zE hD] at HF1
            simp only [List.set_cons_zero, List.set_cons_succ] at HF1
            replace HF := Lib.hid HF1; clear HF1
            refine hK.out _ _ (fun _ => ⟨HF.out.ltAt 0 rfl, HF.out.cellAt 0 rfl 2 rfl⟩) (fun hS' => ?_)
            clear hK K hS; have hS := hS'; clear hS'
            try simp only [Act.put, List.setIfInBounds_toArray, List.set_cons_zero, List.set_cons_succ]
            refine wpAnyG_ready (rs := [13]) (by kernel_rfl) (by simp) ?_
            refine AllReadyG.cons rfl (fun K hK => ?_) AllReadyG.nil
            refine (if_pos (by rfl)).mpr ?_
            (first | ((refine Fr.ow_store1 0 HF.out Fr.tySE rfl rfl rfl rfl rfl rfl ?_ ?_); (focus (rfl))))
            intro W1 HF1
            simp only [Fr.setL, List.set_cons_zero, List.set_cons_succ] at HF1; replace HF := Lib.hid HF1; clear HF1
            refine hK.out _ _ (fun h => absurd h (by simp)) (fun hS' => ?_)
            clear hK K hS; have hS := hS'; clear hS'
            try simp only [Act.put, List.setIfInBounds_toArray, List.set_cons_zero, List.set_cons_succ]
            refine wpAnyG_done (by kernel_rfl) ?_ _
            clear hS
            go_wp2
            go_meet
            case rel => exact ⟨ta, l1, _, HX, Lib.hid (by have h1 := HL.out; omega), Lib.hid (by have h1 := HF.out; rw [show 2 = (([Tr.exD te] ++ [Tr.exD tc])).length by simp [], Fr.last_set] at h1; exact h1.pick [0, 1] [] (by decide) (by simp) (by simp))⟩
          · skip
            refine (if_pos (by rfl)).mpr ?_
            (first | ((refine Fr.ow_store1 0 HF.out Fr.tySE rfl rfl rfl rfl rfl rfl ?_ ?_); (focus (rfl))))
            intro W1 HF1
            simp only [Fr.setL, List.set_cons_zero, List.set_cons_succ] at HF1; replace HF := Lib.hid HF1; clear HF1
            refine hK.out _ _ (fun h => absurd h (by simp)) (fun hS' => ?_)
            clear hK K hS; have hS := hS'; clear hS'
            try simp only [Act.put, List.setIfInBounds_toArray, List.set_cons_zero, List.set_cons_succ]
            refine wpAnyG_ready (rs := [10]) (by kernel_rfl) (by simp) ?_
            refine AllReadyG.cons rfl (fun K hK => ?_) AllReadyG.nil
            refine (if_pos (by rfl)).mpr ?_
            refine Fr.ow_storeRow 1 HF.out Fr.tyE rfl rfl rfl (2) 0 (by first | rfl | simp | omega) (row := Fr.dzE) (by simp []) (by rw [hD]; simp) rfl rfl rfl (nd := Tr.exD ta) ?_ ?_
            focus (rw [hD]; (repeat' (first | exact Da.row_nil _ _ | exact Da.Is.int _ | exact Da.Is.str _ | exact HF.out.da 1 _ _ rfl | refine Da.row_cons ?_ ?_)))
            intro W1 HF1
            rw [Fr.set_zE hD] at HF1
            simp only [List.set_cons_zero, List.set_cons_succ] at HF1
            replace HF := Lib.hid HF1; clear HF1
            refine hK.out _ _ (fun h => absurd h (by simp)) (fun hS' => ?_)
            clear hK K hS; have hS := hS'; clear hS'
            try simp only [Act.put, List.setIfInBounds_toArray, List.set_cons_zero, List.set_cons_succ]
            refine wpAnyG_done (by kernel_rfl) ?_ _
            clear hS
            go_wp2
            go_meet
            case rel => exact ⟨ta, l1, _, HX, Lib.hid (by have h1 := HL.out; omega), Lib.hid (by have h1 := HF.out; rw [show 2 = (([Tr.exD te] ++ [Tr.exD tc])).length by simp [], Fr.last_set] at h1; exact h1.pick [0, 1] [] (by decide) (by simp) (by simp))⟩
        · skip
          refine (if_pos (by rfl)).mpr ?_
          refine Fr.ow_lit1 HF.out Tryd.underlying36 Fr.tyE (by simp) (by simp) rfl rfl rfl rfl (row := Fr.dzE) Fr.row_zE ?_
          intro b1 W1 HF1
          replace HF := Lib.hid HF1; clear HF1
          refine hK.out _ _ (fun _ => ⟨HF.out.ltAt 0 rfl, HF.out.cellAt 0 rfl 2 rfl⟩) (fun hS' => ?_)
          clear hK K hS; have hS := hS'; clear hS'
          try simp only [Act.put, List.setIfInBounds_toArray, List.set_cons_zero, List.set_cons_succ]
          refine wpAnyG_ready (rs := [5]) (by kernel_rfl) (by simp) ?_
          refine AllReadyG.cons rfl (fun K hK => ?_) AllReadyG.nil
          go_simp
          (go_at_call 41; (with_reducible refine (HE.out _ B bp _ (by have h1 := HL.out; have h2 := HN.out; (try have h3 := HM.out); omega) (Fr.PF.ps HF.out)).mono ?_); rintro e W1 ⟨hr, ⟨ta, l1, v, hx, hps, rfl, hV⟩ | ⟨q, hx, rfl⟩⟩; (focus (obtain ⟨k0, n0, tx0, op0, xs0, p0, va, rfl, hD, hdp, hd0⟩ := Fr.VEx.parts hV; have HX1 := HX.out; (try simp only [hx, ↓reduceIte, Bool.false_eq_true, Fr.bind_ok, Fr.bind_no] at HX1); replace HX := Lib.hid HX1; clear HX1; replace HL := Lib.hid (Fr.con_add (Tr.con_expr en HC.out.ce.rg _) hx HL.out); have HF2 := Fr.PF.call HB.out HF.out hr hps; replace HF2 := Fr.Fm.since HF.out HF2 hd0; replace HF := Lib.hid HF2; clear HF2 hr hps hx hd0)); rotate_left; (focus (have HX1 := HX.out; (try simp only [hx, ↓reduceIte, Bool.false_eq_true, Fr.bind_ok, Fr.bind_no] at HX1); replace HX := Lib.hid HX1; clear HX1; have HR := Lib.hid (Tr.rd_trans (Fr.PF.rd HF.out) hr); clear hr hx)); rotate_left)
          rotate_left
          · go_simp
            exact ⟨rfl, .inr ⟨_, HX.out, rfl, HR.out⟩⟩
          go_simp
          refine hK.out _ _ (fun _ => ⟨HF.out.ltAt 0 rfl, HF.out.cellAt 0 rfl 2 rfl⟩) (fun hS' => ?_)
          clear hK K hS; have hS := hS'; clear hS'
          try simp only [Act.put, List.setIfInBounds_toArray, List.set_cons_zero, List.set_cons_succ]
          refine wpAnyG_ready (rs := [8]) (by kernel_rfl) (by simp) ?_
          refine AllReadyG.cons rfl (fun K hK => ?_) AllReadyG.nil
          refine (if_pos (by rfl)).mpr ?_
          refine Fr.ow_append 1 1 HF.out Tryd.underlying36 Fr.tyE (by simp) (by simp) rfl rfl rfl rfl rfl rfl ?_ ?_
          focus (simp)
          intro v1 W1 HF1
          simp only [Fr.setL, List.set_cons_zero, List.set_cons_succ] at HF1
          obtain ⟨bl, cap, rfl, hcp, hcm⟩ : ∃ b cap : Nat, v1 = .slice (some ⟨b, 0, none⟩) (2 + 1) cap ∧ 2 + 1 ≤ cap ∧ cap ≤ maxLen := by
            rcases HF1.rowForm (k := 1) rfl with ⟨h, _⟩ | h
            · simp at h
            · simpa [] using h
          replace HF := Lib.hid HF1
          clear HF1
          refine hK.out _ _ (fun _ => ⟨HF.out.ltAt 0 rfl, HF.out.cellAt 0 rfl 2 rfl⟩) (fun hS' => ?_)
          clear hK K hS; have hS := hS'; clear hS'
          try simp only [Act.put, List.setIfInBounds_toArray, List.set_cons_zero, List.set_cons_succ]
          refine wpAnyG_take (n := 14) (i := 9) (v := ?_) rfl (by kernel_rfl) (by kernel_rfl) (by kernel_rfl) (by kernel_rfl) (upTo_put (by decide)) (fun _ _ _ h => h) (closed_all (by kernel_rfl)) (Or.inl ⟨by rfl, ?_⟩) hS (fun _ hS' => ?_)
          rotate_left 1
          · intro X hX'
            clear hX'
            go_simp
            try with_reducible rfl
          try simp only [Act.put, List.setIfInBounds_toArray, List.set_cons_zero, List.set_cons_succ]
          clear hS; have hS := hS'; clear hS'
          refine wpAnyG_take (n := 14) (i := 11) (v := ?_) rfl (by kernel_rfl) (by kernel_rfl) (by kernel_rfl) (by kernel_rfl) (upTo_put (by decide)) (fun _ _ _ h => h) (closed_all (by kernel_rfl)) (Or.inl ⟨by rfl, ?_⟩) hS (fun _ hS' => ?_)
          rotate_left 1
          · intro X hX'
            clear hX'
            go_simp
            try with_reducible rfl
          try simp only [Act.put, List.setIfInBounds_toArray, List.set_cons_zero, List.set_cons_succ]
          clear hS; have hS := hS'; clear hS'
          refine wpAnyG_take (n := 14) (i := 12) (v := ?_) rfl (by kernel_rfl) (by kernel_rfl) (by kernel_rfl) (by kernel_rfl) (upTo_put (by decide)) (fun _ _ _ h => h) (closed_all (by kernel_rfl)) (Or.inl ⟨by rfl, ?_⟩) hS (fun _ hS' => ?_)
          rotate_left 1
          · intro X hX'
            clear hX'
            go_simp
            try with_reducible rfl
          try simp only [Act.put, List.setIfInBounds_toArray, List.set_cons_zero, List.set_cons_succ]
          clear hS; have hS := hS'; clear hS'
          refine wpAnyG_ready (rs := [10, 13]) (by kernel_rfl) (by simp) ?_
          refine AllReadyG.cons rfl (fun K hK => ?_) (AllReadyG.cons rfl (fun K hK => ?_) AllReadyG.nil)
          · skip
            refine (if_pos (by rfl)).mpr ?_
            refine Fr.ow_storeRow 1 HF.out Fr.tyE rfl rfl rfl (2) 0 (by first | rfl | simp | omega) (row := Fr.dzE) (by simp []) (by rw [hD]; simp) rfl rfl rfl (nd := Tr.exD ta) ?_ ?_
            focus (rw [hD]; (repeat' (first | exact Da.row_nil _ _ | exact Da.Is.int _ | exact Da.Is.str _ | exact HF.out.da 0 _ _ rfl | refine Da.row_cons ?_ ?_)))
            intro W1 HF1
            rw [Fr.set_zE hD] at HF1
            simp only [List.set_cons_zero, List.set_cons_succ] at HF1
            replace HF := Lib.hid HF1; clear HF1
            refine hK.out _ _ (fun _ => ⟨HF.out.ltAt 0 rfl, HF.out.cellAt 0 rfl 2 rfl⟩) (fun hS' => ?_)
            clear hK K hS; have hS := hS'; clear hS'
            try simp only [Act.put, List.setIfInBounds_toArray, List.set_cons_zero, List.set_cons_succ]
            refine wpAnyG_ready (rs := [13]) (by kernel_rfl) (by simp) ?_
            refine AllReadyG.cons rfl (fun K hK => ?_) AllReadyG.nil
            refine (if_pos (by rfl)).mpr ?_
            (first | ((refine Fr.ow_store1 0 HF.out Fr.tySE rfl rfl rfl rfl rfl rfl ?_ ?_); (focus (rfl))))
            intro W1 HF1
            simp only [Fr.setL, List.set_cons_zero, List.set_cons_succ] at HF1; replace HF := Lib.hid HF1; clear HF1
            refine hK.out _ _ (fun h => absurd h (by simp)) (fun hS' => ?_)
            clear hK K hS; have hS := hS'; clear hS'
            try simp only [Act.put, List.setIfInBounds_toArray, List.set_cons_zero, List.set_cons_succ]
            refine wpAnyG_done (by kernel_rfl) ?_ _
            clear hS
            go_wp2
            go_meet
            case rel => exact ⟨ta, l1, _, HX, Lib.hid (by have h1 := HL.out; omega), Lib.hid (by have h1 := HF.out; rw [show 2 = (([Tr.exD te] ++ [Tr.exD tc])).length by simp [], Fr.last_set] at h1; exact h1.pick [0, 1] [] (by decide) (by simp) (by simp))⟩
          · skip
            refine (if_pos (by rfl)).mpr ?_
            (first | ((refine Fr.ow_store1 0 HF.out Fr.tySE rfl rfl rfl rfl rfl rfl ?_ ?_); (focus (rfl))))
            intro W1 HF1
            simp only [Fr.setL, List.set_cons_zero, List.set_cons_succ] at HF1; replace HF := Lib.hid HF1; clear HF1
            refine hK.out _ _ (fun h => absurd h (by simp)) (fun hS' => ?_)
            clear hK K hS; have hS := hS'; clear hS'
            try simp only [Act.put, List.setIfInBounds_toArray, List.set_cons_zero, List.set_cons_succ]
            refine wpAnyG_ready (rs := [10]) (by kernel_rfl) (by simp) ?_
            refine AllReadyG.cons rfl (fun K hK => ?_) AllReadyG.nil
            refine (if_pos (by rfl)).mpr ?_
            refine Fr.ow_storeRow 1 HF.out Fr.tyE rfl rfl rfl (2) 0 (by first | rfl | simp | omega) (row := Fr.dzE) (by simp []) (by rw [hD]; simp) rfl rfl rfl (nd := Tr.exD ta) ?_ ?_
            focus (rw [hD]; (repeat' (first | exact Da.row_nil _ _ | exact Da.Is.int _ | exact Da.Is.str _ | exact HF.out.da 0 _ _ rfl | refine Da.row_cons ?_ ?_)))
            intro W1 HF1
            rw [Fr.set_zE hD] at HF1
            simp only [List.set_cons_zero, List.set_cons_succ] at HF1
            replace HF := Lib.hid HF1; clear HF1
            refine hK.out _ _ (fun h => absurd h (by simp)) (fun hS' => ?_)
            clear hK K hS; have hS := hS'; clear hS'
            try simp only [Act.put, List.setIfInBounds_toArray, List.set_cons_zero, List.set_cons_succ]
            refine wpAnyG_done (by kernel_rfl) ?_ _
            clear hS
            go_wp2
            go_meet
            case rel => exact ⟨ta, l1, _, HX, Lib.hid (by have h1 := HL.out; omega), Lib.hid (by have h1 := HF.out; rw [show 2 = (([Tr.exD te] ++ [Tr.exD tc])).length by simp [], Fr.last_set] at h1; exact h1.pick [0, 1] [] (by decide) (by simp) (by simp))⟩
      case rest =>
        clear HF HX HL
        obtain ⟨td, l3, ve, HX, HL, HF⟩ := hcut
        have HX1 := HX.out
        unfold Fr.for3 at HX1
        replace HX := Lib.hid HX1
        clear HX1
        go_wp2_with (first
          | (go_at_call 26; (with_reducible refine (skip_any _ B bp en _ _ (Fr.PF.ps HF.out)).mono ?_); rintro e W1 ⟨hr, ⟨_, l1, v, hx, hps, rfl, rfl⟩ | ⟨q, hx, rfl⟩⟩; (focus (have HX1 := HX.out; (try simp only [hx, ↓reduceIte, Bool.false_eq_true, Fr.bind_ok, Fr.bind_no] at HX1); replace HX := Lib.hid HX1; clear HX1; replace HL := Lib.hid (Fr.con_add (Tr.con_skip en _ _) hx HL.out); replace HF := Lib.hid (Fr.PF.call HB.out HF.out hr hps); clear hr hps hx)); rotate_left; (focus (have HX1 := HX.out; (try simp only [hx, ↓reduceIte, Bool.false_eq_true, Fr.bind_ok, Fr.bind_no] at HX1); replace HX := Lib.hid HX1; clear HX1; have HR := Lib.hid (Tr.rd_trans (Fr.PF.rd HF.out) hr); clear hr hx)); rotate_left)
          | (go_at_call 32; (with_reducible refine (HC.out.st _ B bp _ (by have h1 := HL.out; have h2 := HN.out; (try have h3 := HM.out); omega) (Fr.PF.ps HF.out)).mono ?_); rintro e W1 ⟨hr, ⟨ss, l1, v, hx, hps, rfl, hV⟩ | ⟨q, hx, rfl⟩⟩; (focus (have hd0 := hV; have HX1 := HX.out; (try simp only [hx, ↓reduceIte, Bool.false_eq_true, Fr.bind_ok, Fr.bind_no] at HX1); replace HX := Lib.hid HX1; clear HX1; replace HL := Lib.hid (Fr.suf_add (HC.out.ce.rg.st _) hx HL.out); have HF2 := Fr.PF.call HB.out HF.out hr hps; replace HF2 := Fr.Fm.since HF.out HF2 hd0; replace HF := Lib.hid HF2; clear HF2 hr hps hx hd0)); rotate_left; (focus (have HX1 := HX.out; (try simp only [hx, ↓reduceIte, Bool.false_eq_true, Fr.bind_ok, Fr.bind_no] at HX1); replace HX := Lib.hid HX1; clear HX1; have HR := Lib.hid (Tr.rd_trans (Fr.PF.rd HF.out) hr); clear hr hx)); rotate_left)
          | ((with_reducible refine Fr.is_lit ?_); (refine Fr.wl_lit1 HF.out Tryd.underlying40 Fr.tySS (by simp) (by simp) rfl (Fr.cells_one (HF.out.da 0 _ _ rfl).one) rfl [.list 6 (Tr.stDs ss)] ?_ ?_); (focus (repeat' (first | exact Da.row_nil _ _ | exact HF.out.da 0 _ _ rfl | refine Da.row_cons ?_ ?_))); intro b1 W1 HF1; replace HF := Lib.hid HF1; clear HF1)
          | (first | ((with_reducible refine Fr.is_store (T := 40) ?_); (first | ((refine Fr.wl_store1 0 HF.out Fr.tySSS rfl rfl rfl rfl rfl ?_ ?_); (focus (rfl)))); intro W1 HF1; simp only [Fr.setL, List.set_cons_zero, List.set_cons_succ] at HF1; replace HF := Lib.hid HF1; clear HF1)))
        all_goals first | (exact ⟨rfl, .inr ⟨_, HX.out, rfl, HR.out⟩⟩) | skip
        go_end0
        have HV := HF.out.close (k := 1) rfl
        exact .inl ⟨_, _, _, _, _, _, _, _, .list 1 [], _, _, HX.out, rfl, (HV.data (v := .slice none 0 0) (d := .list 1 []) (m := W1.heap.size) (Fr.is_nil _) HV.size (fun i r b hi hb => (HV.fpl hi hb).2)).pick [0] [1, 0, 2] (by decide) (by simp) (by simp), by simp only [Tr.stD, Tr.exDs, Tr.blDs]; rfl⟩
    · have HX1 := HX.out
      unfold Fr.for3 at HX1
      replace HX := Lib.hid HX1
      clear HX1
      go_wp2_with (first
        | (go_at_call 26; (with_reducible refine (skip_any _ B bp en _ _ (Fr.PF.ps HF.out)).mono ?_); rintro e W1 ⟨hr, ⟨_, l1, v, hx, hps, rfl, rfl⟩ | ⟨q, hx, rfl⟩⟩; (focus (have HX1 := HX.out; (try simp only [hx, ↓reduceIte, Bool.false_eq_true, Fr.bind_ok, Fr.bind_no] at HX1); replace HX := Lib.hid HX1; clear HX1; replace HL := Lib.hid (Fr.con_add (Tr.con_skip en _ _) hx HL.out); replace HF := Lib.hid (Fr.PF.call HB.out HF.out hr hps); clear hr hps hx)); rotate_left; (focus (have HX1 := HX.out; (try simp only [hx, ↓reduceIte, Bool.false_eq_true, Fr.bind_ok, Fr.bind_no] at HX1); replace HX := Lib.hid HX1; clear HX1; have HR := Lib.hid (Tr.rd_trans (Fr.PF.rd HF.out) hr); clear hr hx)); rotate_left)
        | (go_at_call 32; (with_reducible refine (HC.out.st _ B bp _ (by have h1 := HL.out; have h2 := HN.out; (try have h3 := HM.out); omega) (Fr.PF.ps HF.out)).mono ?_); rintro e W1 ⟨hr, ⟨ss, l1, v, hx, hps, rfl, hV⟩ | ⟨q, hx, rfl⟩⟩; (focus (have hd0 := hV; have HX1 := HX.out; (try simp only [hx, ↓reduceIte, Bool.false_eq_true, Fr.bind_ok, Fr.bind_no] at HX1); replace HX := Lib.hid HX1; clear HX1; replace HL := Lib.hid (Fr.suf_add (HC.out.ce.rg.st _) hx HL.out); have HF2 := Fr.PF.call HB.out HF.out hr hps; replace HF2 := Fr.Fm.since HF.out HF2 hd0; replace HF := Lib.hid HF2; clear HF2 hr hps hx hd0)); rotate_left; (focus (have HX1 := HX.out; (try simp only [hx, ↓reduceIte, Bool.false_eq_true, Fr.bind_ok, Fr.bind_no] at HX1); replace HX := Lib.hid HX1; clear HX1; have HR := Lib.hid (Tr.rd_trans (Fr.PF.rd HF.out) hr); clear hr hx)); rotate_left)
        | ((with_reducible refine Fr.is_lit ?_); (refine Fr.wl_lit1 HF.out Tryd.underlying40 Fr.tySS (by simp) (by simp) rfl (Fr.cells_one (HF.out.da 0 _ _ rfl).one) rfl [.list 6 (Tr.stDs ss)] ?_ ?_); (focus (repeat' (first | exact Da.row_nil _ _ | exact HF.out.da 0 _ _ rfl | refine Da.row_cons ?_ ?_))); intro b1 W1 HF1; replace HF := Lib.hid HF1; clear HF1)
        | (first | ((with_reducible refine Fr.is_store (T := 40) ?_); (first | ((refine Fr.wl_store1 0 HF.out Fr.tySSS rfl rfl rfl rfl rfl ?_ ?_); (focus (rfl)))); intro W1 HF1; simp only [Fr.setL, List.set_cons_zero, List.set_cons_succ] at HF1; replace HF := Lib.hid HF1; clear HF1)))
      all_goals first | (exact ⟨rfl, .inr ⟨_, HX.out, rfl, HR.out⟩⟩) | skip
      go_end0
      have HV := HF.out.close (k := 1) rfl
      exact .inl ⟨_, _, _, _, _, _, _, _, .list 1 [], _, _, HX.out, rfl, (HV.data (v := .slice none 0 0) (d := .list 1 []) (m := W1.heap.size) (Fr.is_nil _) HV.size (fun i r b hi hb => (HV.fpl hi hb).2)).pick [0] [1, 0, 2] (by decide) (by simp) (by simp), by simp only [Tr.stD, Tr.exDs, Tr.blDs]; rfl⟩
end Go.Proofs.YtlhmkfcbldghfaaDoor
