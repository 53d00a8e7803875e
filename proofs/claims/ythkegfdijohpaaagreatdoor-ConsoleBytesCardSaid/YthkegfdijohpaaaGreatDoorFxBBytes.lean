/- The closed facts of the row of ConsoleBytes,parted. Conditions: none. -/
import Derived.Test.YthkegfdijohpaaaGreatDoorRows
import Derived.Test.YthkegfdijohpaaaGreatDoorFxC
import Derived.Test.YthkegfdijohpaaaGreatDoorFxD
import Derived.Test.YthkegfdijohpaaaGreatDoorFxL
namespace Go.Proofs.YthkegfdijohpaaaGreatDoor.consoleBytes
set_option linter.all false
open Go
set_option maxRecDepth 100000
theorem fnamed:Tryz.prog.funcNamed "spinet/spinetlaw29.ConsoleBytes" = some 6:=by kernel_rfl
def clos:List Nat:=[6,7,13,25,38,8,16,15,29,49,69,98,34,52,72,35,30,50,70,99,100,71,101,167,102,103,22,36,53,73,74,106,105,107,75,76,108,109,169,170,168,104,31,51,26,28,43,60,81,48,44,61,45,62,63,82,111,171,172,249,250,331,428,429,56,79,112,113,173,174,175,251,176,177,83,114,115,178,179,183,116,180,181,182,252,253,254,332,333,431,504,430,503,433,338,544,434,334,255,335,336,256,337,432,184,185,257,339,340,341,186,84,117,187,258,259,262,343,342,260,261,64,85,118,119,120,188,121,123,122,128,192,193,189,124,125,127,190,191,126,91,156,235,314,228,312,409,315,410,496,497,539,540,541,575,542,498,500,501,499,543,316,411,150,151,233,234,152,153,157,154,236,158,237,155,129,86,65,87,130,132,194,263,344,435,505,39,54,545,57,80,110,58,576,613,620,614,615,621,624,616,577,617,622,625,626,41,264,346,345,436,265,266,348,349,439,358,454,453,515,364,361,347,438,437,506,351,352,442,443,444,509,508,546,445,511,510,547,446,357,450,514,513,548,451,452,350,441,440,507,354,353,448,447,512,267,356,355,449,268,269,360,359,455,270,362,457,456,516,363,365,459,458,517,366,131,133,134,195,271,367,274,368,196,135,197,272,369,198,273,370,460,461,518,376,519,549,554,529,462,372,276,463,373,520,374,281,465,521,207,292,384,385,287,522,464,466,523,550,377,551,578,553,582,555,558,580,579,422,423,424,502,524,525,526,533,565,607,606,527,552,581,469,467,528,468,530,531,556,557,532,559,583,584,585,586,587,588,589,590,560,591,592,593,594,595,596,597,561,598,599,600,601,602,603,604,605,618,623,562,563,564,371,200,199,277,278,279,280,375,282,275,201,203,202,286,379,283,284,378,380,381,382,470,383,285,204,288,289,386,290,387,388,471,472,88,136,138,205,291,137,206,140,219,306,211,217,227,310,408,311,210,139,208,293,209,294,212,213,295,214,144,226,308,406,407,309,215,296,389,473,298,394,395,396,216,297,299,399,300,301,400,401,489,490,491,485,492,494,493,402,403,302,404,405,495,307,303,304,391,480,487,488,538,481,535,305,486,397,398,534,474,475,477,476,390,478,479,392,482,537,574,536,566,567,608,568,609,610,569,611,612,619,570,571,572,573,483,484,393,218,141,142,220,221,222,223,224,225,143,89,145,229,146,148,147,230,149,231,313,232,66,90,92,46,67,94,95,161,239,162,163,240,164,241,243,242,323,93,159,160,238,317,318,413,412,319,414,415,320,416,321,417,322,418,47,68,96,165,97,166,244,245,324,246,325,419,420,326,327,247,328,248,329,421,330,425,426,427,27,40,55,77,78,59,42,21,14,11]
theorem viaC:Fx.viaM fx_tab (1+(fx_tab.map fun l=>l.length+1).sum) [6] 0 []=clos:=by kernel_rfl
theorem closC:Tryz.prog.closure 6=clos:=Fx.closure_of Tryz.prog fx_tab fx_leads 6 clos viaC
theorem inPlaceC:(Rows.consoleBytesRow.inPlace == Tryz.prog.inPlace 6)=true:=by
 unfold Program.inPlace
 rw [closC]
 kernel_rfl
theorem unfC:Tryz.prog.unfollowed 6=true:=by
 unfold Program.unfollowed
 rw [closC]
 kernel_rfl
theorem recC:Tryz.prog.recurses 6=true:=by
 unfold Program.recurses
 rw [unfC]
 rfl
theorem namedC:(Rows.consoleBytesRow.named == Tryz.prog.varsNamed 6)=true:=by
 unfold Program.varsNamed
 rw [closC]
 kernel_rfl
theorem goes:false=Rows.consoleBytesRow.goesBy Tryz.prog:=by
 have h:Rows.consoleBytesRow.goesBy Tryz.prog=(Tryz.prog.goesFrom "spinet/spinetlaw29.ConsoleBytes" || false):=rfl
 rw [h,Bool.or_false]
 unfold Program.goesFrom
 rw [fnamed,Option.any_some,Fx.goes_no Tryz.prog 6 fx_goes]
theorem joined:joinedFacts Tryz.prog 6 Tryz.f6 Rows.consoleBytesSpec Rows.consoleBytesRow=true:=by
 unfold joinedFacts
 exact Fx.and2 (Fx.and2 (Fx.and2 (Fx.and2 (Fx.and2 (Fx.and2 (Fx.and2 (Fx.and2 (Fx.and2 (Fx.and2 (Fx.and2 (Fx.and2 (Fx.and2 (Fx.and2 (Fx.and2 (Fx.and2 (Fx.and2 (Fx.and2 (Fx.and2 (Fx.and2 (Fx.and2 (Fx.and2 (Fx.and2 (Fx.and2 (Fx.and2 (Fx.and2 (Fx.and2 (Fx.and2 (Fx.and2 (Fx.and2 (Fx.and2 ((by as_aux_lemma=>kernel_rfl)) fx_laidOut) fx_maps) (by as_aux_lemma=>kernel_rfl)) (by as_aux_lemma=>kernel_rfl)) (by as_aux_lemma=>kernel_rfl)) fx_stops) (by as_aux_lemma=>kernel_rfl)) fx_knobs) inPlaceC) (Fx.beq_of unfC)) (Fx.beq_of recC)) namedC) (by as_aux_lemma=>kernel_rfl)) (by as_aux_lemma=>kernel_rfl)) (by as_aux_lemma=>kernel_rfl)) (by as_aux_lemma=>kernel_rfl)) (by as_aux_lemma=>kernel_rfl)) (by as_aux_lemma=>kernel_rfl)) (by as_aux_lemma=>kernel_rfl)) (by as_aux_lemma=>kernel_rfl)) (by as_aux_lemma=>kernel_rfl)) (Fx.beq_of fx_keys)) (by as_aux_lemma=>kernel_rfl)) fx_heard) fx_enter) (Fx.beq_of fx_lifts)) fx_make) (by as_aux_lemma=>kernel_rfl)) (by as_aux_lemma=>kernel_rfl)) (by as_aux_lemma=>kernel_rfl)) (by as_aux_lemma=>kernel_rfl)
end Go.Proofs.YthkegfdijohpaaaGreatDoor.consoleBytes
