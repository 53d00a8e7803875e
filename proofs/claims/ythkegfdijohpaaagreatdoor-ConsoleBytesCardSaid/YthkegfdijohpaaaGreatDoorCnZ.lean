/- The walk of the waking call of the console's laws. Conditions: the library's variables are as they were laid. -/
import Derived.Test.YthkegfdijohpaaaGreatDoorCnV
namespace Go.Proofs.YthkegfdijohpaaaGreatDoor
set_option linter.all false
open Go.Lib (hid)
set_option maxRecDepth 1000000
set_option maxHeartbeats 16000000
open Go.RowKit
theorem texts_outs(v:Value)(b:Nat)(w:World)(hv:Reads w v 3 1 Cn.outs)(hb:b<w.heap.size)(c0:w.cell? ⟨b,0,none⟩=some (.string ⟨#[101,114,114,111,114,32,50,53,48,32,97,116,32,48]⟩))(c1:w.cell? ⟨b,1,none⟩=some (.string ⟨#[111,107]⟩))(c2:w.cell? ⟨b,2,none⟩=some (.string ⟨#[101,114,114,111,114,32,54,48,32,97,116,32,48]⟩)) :
  Calls Tryz.prog 14 #[v,.slice (some ⟨b,0,none⟩) 3 3] w fun e w'=>e=.returned (.bool true)∧∃ g,w'=more w g:=by
 refine keepTexts_same [⟨#[101,114,114,111,114,32,50,53,48,32,97,116,32,48]⟩,⟨#[111,107]⟩,⟨#[101,114,114,111,114,32,54,48,32,97,116,32,48]⟩] v _ w (by decide) (by decide) hv ⟨rfl,.inr ⟨b,0,3,rfl,by decide,by decide,hb,fun j u hu=>?_⟩⟩
 match j,hu with
 | 0,hu=>rw [← hu];exact c0
 | 1,hu=>rw [← hu];exact c1
 | 2,hu=>rw [← hu];exact c2
 | _+3,hu=>simp [Cn.tcells]at hu
theorem wakes29_any(w:World)(hg:Gc w):Calls Tryz.prog 7 #[] w fun e w'=>e=.returned (.bool true)∧∃ g,w'=more w g:=by
 have HG:=hid hg
 have HR:=hid (fun u hu b hb c0 c1 c2=>run_three u hu b hb c0 c1 c2)
 have HP:=hid (fun u hu=>parse_load u hu)
 have HT:=hid (fun v b u hv hb c0 c1 c2=>texts_outs v b u hv hb c0 c1 c2)
 clear hg
 go_enter Tryz.func7,Tryz.ntmps7
 go_wp2_with (first|(go_at_call 13;(with_reducible refine(HR.out _ (HG.out.below bT) _ ?_ ?_ ?_ ?_).mono ?_);(focus(first|(simp;done)|(simp;omega)|go_size));(focus(go_simp;try rfl));(focus(go_simp;try rfl));(focus(go_simp;try rfl));rintro e w2 ⟨⟨v,rfl,hR⟩,g2,hw2⟩;have hb2:Below w.heap.size w w2:=(by rw [hw2];exact bT);have hs2:=hb2.size;clear hw2;replace hR:=hid hR)|(go_at_call 8;(with_reducible refine(HP.out _ (HG.out.below (by first|exact hb2|exact hb2.trans (Below.mono bT hs2)))).mono ?_);rintro e w3 ⟨rfl,g3,rfl⟩)|(go_at_call 14;(with_reducible refine(HT.out _ _ _ (hR.out.below bT) ?_ ?_ ?_ ?_).mono ?_);(focus(first|(simp;done)|(simp;omega)|(simp [more_size];done)|(simp [more_size];omega)));(focus(go_simp;try rfl));(focus(go_simp;try rfl));(focus(go_simp;try rfl));rintro e w4 ⟨rfl,g4,rfl⟩))
 go_ret
 exact⟨rfl,more_of_below (hb2.trans (Below.mono bT hs2))⟩
end Go.Proofs.YthkegfdijohpaaaGreatDoor
