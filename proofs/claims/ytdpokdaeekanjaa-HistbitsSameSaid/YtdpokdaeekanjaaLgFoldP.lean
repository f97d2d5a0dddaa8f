/- The plain functions, printed by gen.py. -/
import Derived.Test.YtdpokdaeekanjaaLgLit
import Derived.Test.YtdpokdaeekanjaaLgBitsP
import Derived.Test.YtdpokdaeekanjaaLgHistP
set_option linter.unusedVariables false
namespace Go.Lg
noncomputable def fold_Merge_lp1 (r61 : api_Hist) (r62 : api_Hist) (r233 : Int) (x299 : List UInt64) : (List UInt64 × Int) → Option (Rnd (List UInt64 × Int) (List UInt64) (List UInt64)) := fun (c379, x382) =>
 bif decide (x382 < (x299.length : Int)) then
 (hist_At r61.Pos (w64 (r233 + x382))).bind fun r470 =>
 (hist_At r62.Pos (w64 (r233 + x382))).bind fun r486 =>
 (idx c379 x382).bind fun e498 =>
 lett ((r470 + r486)) fun t514 =>
 (setI c379 x382 t514).bind fun xs515 =>
 some (.next (xs515, w64 (x382 + 1)))
 else
 some (.brk c379)
noncomputable def fold_Merge_lp2 (r61 : api_Hist) (r62 : api_Hist) (r564 : Int) (x630 : List UInt64) : (List UInt64 × Int) → Option (Rnd (List UInt64 × Int) (List UInt64) (List UInt64)) := fun (c708, x711) =>
 bif decide (x711 < (x630.length : Int)) then
 (hist_At r61.Neg (w64 (r564 + x711))).bind fun r799 =>
 (hist_At r62.Neg (w64 (r564 + x711))).bind fun r815 =>
 (idx c708 x711).bind fun e827 =>
 lett ((r799 + r815)) fun t843 =>
 (setI c708 x711 t843).bind fun xs844 =>
 some (.next (xs844, w64 (x711 + 1)))
 else
 some (.brk c708)
noncomputable def fold_Merge (a0 : api_Hist) (a1 : api_Hist) : Option (api_Hist × Int) :=
 (fold_Level a0 a1).bind fun (r61, r62, r63) =>
 bif (!decide (r63 = 0)) then
 some ((api_Hist.mk 0 0 (api_Side.mk 0 []) (api_Side.mk 0 [])), r63)
 else
 (hist_Total r61).bind fun (r143, r144) =>
 (hist_Total r62).bind fun (r158, r159) =>
 lett ((add64S r143 r158 (0 : UInt64))) fun t168 =>
 lett ((add64C r143 r158 (0 : UInt64))) fun carry169 =>
 bif (!decide (carry169 = 0)) then
 some ((api_Hist.mk 0 0 (api_Side.mk 0 []) (api_Side.mk 0 [])), 4)
 else
 flow ((fold_cover r61.Pos r62.Pos).bind fun (r233, r234) =>
 bif decide (160 < r234) then
 outs (some ((api_Hist.mk 0 0 (api_Side.mk 0 []) (api_Side.mk 0 [])), 1))
 else
 bif decide (r234 = 0) then
 some (.go (0, []))
 else
 ((mk r234 (0 : UInt64)).bind fun t308 =>
 some t308).bind fun x299 =>
 (flow (loop (fold_Merge_lp1 r61 r62 r233 x299) (x299, 0)) fun c386 =>
 some c386).bind fun c371 =>
 some (.go (r233, c371))) fun (c203, c204) =>
 flow ((fold_cover r61.Neg r62.Neg).bind fun (r564, r565) =>
 bif decide (160 < r565) then
 outs (some ((api_Hist.mk 0 0 (api_Side.mk 0 []) (api_Side.mk 0 [])), 1))
 else
 bif decide (r565 = 0) then
 some (.go (0, []))
 else
 ((mk r565 (0 : UInt64)).bind fun t639 =>
 some t639).bind fun x630 =>
 (flow (loop (fold_Merge_lp2 r61 r62 r564 x630) (x630, 0)) fun c715 =>
 some c715).bind fun c700 =>
 some (.go (r564, c700))) fun (c531, c532) =>
 some ((api_Hist.mk r61.Scale (r61.Zero + r62.Zero) (api_Side.mk c203 c204) (api_Side.mk c531 c532)), 0)

noncomputable def law09_awake  : Option Bool :=
 (fold_Merge (api_Hist.mk 1 0 (api_Side.mk 2 [1]) (api_Side.mk 0 [])) (api_Hist.mk 0 0 (api_Side.mk 1 [1]) (api_Side.mk 0 []))).bind fun (r55, r56) =>
 (fold_Sub r55 (api_Hist.mk 0 0 (api_Side.mk 1 [1]) (api_Side.mk 0 []))).bind fun (r97, r98) =>
 (bif (((decide (r56 = 0)) && (decide (r98 = 0))) && (decide (r55.Scale = 0))) then
 (hist_At r55.Pos 1).bind fun r149 =>
 some (decide (r149 = 2))
 else
 some false).bind fun x136 =>
 (bif x136 then
 (hist_At r97.Pos 1).bind fun r168 =>
 some (decide (r168 = 1))
 else
 some false).bind fun x158 =>
 (bif x158 then
 (fold_Empty r97).bind fun r192 =>
 some (!r192)
 else
 some false).bind fun x177 =>
 (bif x177 then
 (fold_Empty (api_Hist.mk 0 0 (api_Side.mk 0 []) (api_Side.mk 0 []))).bind fun r208 =>
 some r208
 else
 some false).bind fun x201 =>
 some x201

noncomputable def law09_FoldLevels (a0 : api_Hist) (a1 : api_Hist) : Option Bool :=
 (law09_awake).bind fun r43 =>
 bif (!r43) then
 some false
 else
 (ref08_Light a0).bind fun r62 =>
 (bif (!r62) then
 some true
 else
 (ref08_Light a1).bind fun r86 =>
 some (!r86)).bind fun x71 =>
 bif x71 then
 some true
 else
 (fold_Level a0 a1).bind fun (r114, r115, r116) =>
 (ref09_Level a0 a1).bind fun r211 =>
 (ref08_Same r114 r211.X).bind fun r276 =>
 (bif r276 then
 (ref08_Same r115 r211.Y).bind fun r311 =>
 some r311
 else
 some false).bind fun x285 =>
 lett ((x285 && (decide (r116 = r211.E)))) fun t323 =>
 some t323

noncomputable def ref09_reach (a0 : api_Side) (a1 : api_Side) : Option (Int × Int × Bool) :=
 bif ((decide ((a0.Counts.length : Int) = 0)) && (decide ((a1.Counts.length : Int) = 0))) then
 some (0, 0, false)
 else
 (bif decide ((a0.Counts.length : Int) = 0) then
 some (a1.Offset, a1.Counts)
 else
 some (a0.Offset, a0.Counts)).bind fun (c40, c41) =>
 (bif decide ((a1.Counts.length : Int) = 0) then
 some (c40, c41)
 else
 some (a1.Offset, a1.Counts)).bind fun (c60, c61) =>
 lett ((min c40 c60)) fun t85 =>
 lett (w64 ((max (w64 (c40 + (c41.length : Int))) (w64 (c60 + (c61.length : Int)))) - 1)) fun t86 =>
 some (t85, t86, true)

noncomputable def ref09_both_lp1 (a0 : api_Side) (a1 : api_Side) (r46 : Int) : (List UInt64 × Int) → Option (Rnd (List UInt64 × Int) (List UInt64) (api_Side × Bool)) := fun (c77, i80) =>
 bif decide (i80 ≤ r46) then
 (ref09_At a0 i80).bind fun r137 =>
 (ref09_At a1 i80).bind fun r152 =>
 (app c77 [(r137 + r152)]).bind fun xs169 =>
 lett (w64 (i80 + 1)) fun i194 =>
 some (.next (xs169, i194))
 else
 some (.brk c77)
noncomputable def ref09_both (a0 : api_Side) (a1 : api_Side) : Option (api_Side × Bool) :=
 (ref09_reach a0 a1).bind fun (r45, r46, r47) =>
 bif (!r47) then
 some ((api_Side.mk 0 []), true)
 else
 bif decide (160 ≤ w64 (r46 - r45)) then
 some ((api_Side.mk 0 []), false)
 else
 flow (loop (ref09_both_lp1 a0 a1 r46) ([], r45)) fun c85 =>
 some ((api_Side.mk r45 c85), true)

noncomputable def ref09_Merge (a0 : api_Hist) (a1 : api_Hist) : Option (api_Hist × Int) :=
 (ref09_Level a0 a1).bind fun r61 =>
 bif (!decide (r61.E = 0)) then
 some ((api_Hist.mk 0 0 (api_Side.mk 0 []) (api_Side.mk 0 [])), r61.E)
 else
 (ref08_Total r61.X).bind fun (r137, r138) =>
 (ref08_Total r61.Y).bind fun (r152, r153) =>
 bif decide (((18446744073709551615 : UInt64) - r152) < r137) then
 some ((api_Hist.mk 0 0 (api_Side.mk 0 []) (api_Side.mk 0 [])), 4)
 else
 (ref09_both r61.X.Pos r61.Y.Pos).bind fun (r176, r177) =>
 (ref09_both r61.X.Neg r61.Y.Neg).bind fun (r214, r215) =>
 bif ((!r177) || (!r215)) then
 some ((api_Hist.mk 0 0 (api_Side.mk 0 []) (api_Side.mk 0 [])), 1)
 else
 some ((api_Hist.mk r61.X.Scale (r61.X.Zero + r61.Y.Zero) r176 r214), 0)

noncomputable def ref09_less_lp1 (a0 : api_Side) (a1 : api_Side) : Int → Option (Rnd Int Unit (Flow Unit (api_Side × Bool))) := fun i67 =>
 bif decide (i67 < (a1.Counts.length : Int)) then
 (idx a1.Counts i67).bind fun e98 =>
 (ref09_At a0 (w64 (a1.Offset + i67))).bind fun r142 =>
 bif decide (r142 < e98) then
 outr (outs (some ((api_Side.mk 0 []), false)))
 else
 lett (w64 (i67 + 1)) fun i163 =>
 some (.next i163)
 else
 some (.brk ())
noncomputable def ref09_less_lp2 (a0 : api_Side) (a1 : api_Side) (r45 : Int) (r46 : Int) : (List UInt64 × Int) → Option (Rnd (List UInt64 × Int) (List UInt64) (List UInt64)) := fun (c182, i185) =>
 bif ((decide (i185 ≤ r46)) && (decide (i185 < w64 (r45 + 400)))) then
 (ref09_At a0 i185).bind fun r246 =>
 (ref09_At a1 i185).bind fun r262 =>
 (app c182 [(r246 - r262)]).bind fun xs279 =>
 lett (w64 (i185 + 1)) fun i304 =>
 some (.next (xs279, i304))
 else
 some (.brk c182)
noncomputable def ref09_less (a0 : api_Side) (a1 : api_Side) : Option (api_Side × Bool) :=
 (ref09_reach a0 a1).bind fun (r45, r46, r47) =>
 bif (!r47) then
 some ((api_Side.mk 0 []), true)
 else
 flow (flow (loop (ref09_less_lp1 a0 a1) 0) fun (_ : Unit) =>
 some (.go ())) fun (_ : Unit) =>
 (flow (loop (ref09_less_lp2 a0 a1 r45 r46) ([], r45)) fun c190 =>
 some c190).bind fun c173 =>
 (ref08_Trim (api_Side.mk r45 c173)).bind fun r314 =>
 some (r314, true)

noncomputable def ref09_Sub (a0 : api_Hist) (a1 : api_Hist) : Option (api_Hist × Int) :=
 (ref09_Level a0 a1).bind fun r61 =>
 bif (!decide (r61.E = 0)) then
 some ((api_Hist.mk 0 0 (api_Side.mk 0 []) (api_Side.mk 0 [])), r61.E)
 else
 (ref09_less r61.X.Pos r61.Y.Pos).bind fun (r137, r138) =>
 (ref09_less r61.X.Neg r61.Y.Neg).bind fun (r174, r175) =>
 bif (((!r138) || (!r175)) || (decide (r61.X.Zero < r61.Y.Zero))) then
 some ((api_Hist.mk 0 0 (api_Side.mk 0 []) (api_Side.mk 0 [])), 7)
 else
 some ((api_Hist.mk r61.X.Scale (r61.X.Zero - r61.Y.Zero) r137 r174), 0)

noncomputable def law09_FoldMerges (a0 : api_Hist) (a1 : api_Hist) : Option Bool :=
 (law09_awake).bind fun r43 =>
 bif (!r43) then
 some false
 else
 (ref08_Light a0).bind fun r62 =>
 (bif (!r62) then
 some true
 else
 (ref08_Light a1).bind fun r86 =>
 some (!r86)).bind fun x71 =>
 bif x71 then
 some true
 else
 (fold_Merge a0 a1).bind fun (r114, r115) =>
 (ref09_Merge a0 a1).bind fun (r166, r167) =>
 (fold_Sub a0 a1).bind fun (r218, r219) =>
 (ref09_Sub a0 a1).bind fun (r270, r271) =>
 (ref08_Same r114 r166).bind fun r369 =>
 (bif (r369 && (decide (r115 = r167))) then
 (ref08_Same r218 r270).bind fun r442 =>
 some r442
 else
 some false).bind fun x401 =>
 (bif (x401 && (decide (r219 = r271))) then
 (fold_Empty a0).bind fun r526 =>
 some (decide (r526 = (((decide (a0.Zero = 0)) && (decide ((a0.Pos.Counts.length : Int) = 0))) && (decide ((a0.Neg.Counts.length : Int) = 0)))))
 else
 some false).bind fun x480 =>
 some x480

noncomputable def law09_FoldBack (a0 : api_Hist) (a1 : api_Hist) : Option Bool :=
 (law09_awake).bind fun r43 =>
 bif (!r43) then
 some false
 else
 (ref08_Light a0).bind fun r62 =>
 (bif (!r62) then
 some true
 else
 (ref08_Light a1).bind fun r86 =>
 some (!r86)).bind fun x71 =>
 bif x71 then
 some true
 else
 (fold_Merge a0 a1).bind fun (r114, r115) =>
 bif (!decide (r115 = 0)) then
 (ref08_Same r114 (api_Hist.mk 0 0 (api_Side.mk 0 []) (api_Side.mk 0 []))).bind fun r151 =>
 some r151
 else
 (hist_Total a0).bind fun (r170, r171) =>
 (hist_Total a1).bind fun (r192, r193) =>
 (hist_Total r114).bind fun (r210, r211) =>
 (fold_Sub r114 a1).bind fun (r229, r230) =>
 (hist_Down a0 (w64 (a0.Scale - (min a0.Scale a1.Scale)))).bind fun (r284, r285) =>
 (fold_Merge a1 a0).bind fun (r342, r343) =>
 (bif ((!r211) || (!decide (r210 = (r170 + r192)))) then
 some true
 else
 (hist_Check r114).bind fun r411 =>
 some (!decide (r411 = 0))).bind fun x377 =>
 bif (((x377 || (!decide (r230 = 0))) || (!decide (r285 = 0))) || (!decide (r343 = 0))) then
 some false
 else
 (ref08_Same r229 r284).bind fun r462 =>
 (bif r462 then
 (ref08_Same r342 r114).bind fun r519 =>
 some r519
 else
 some false).bind fun x471 =>
 lett ((x471 && (decide (r114.Scale = (min a0.Scale a1.Scale))))) fun t553 =>
 some t553

noncomputable def fold_Sum_lp1 (a0 : List api_Hist) : (Int × UInt64 × Int × List UInt64 × Int × List UInt64 × Int) → Option (Rnd (Int × UInt64 × Int × List UInt64 × Int × List UInt64 × Int) (Int × UInt64 × Int × List UInt64 × Int × List UInt64) (api_Hist × Int)) := fun (c29, c30, c31, c32, c35, c36, x39) =>
 bif decide (x39 < (a0.length : Int)) then
 (idx a0 x39).bind fun e64 =>
 (fold_Merge (api_Hist.mk c29 c30 (api_Side.mk c31 c32) (api_Side.mk c35 c36)) e64).bind fun (r107, r108) =>
 bif (!decide (r108 = 0)) then
 outr (some ((api_Hist.mk 0 0 (api_Side.mk 0 []) (api_Side.mk 0 [])), r108))
 else
 some (.next (r107.Scale, r107.Zero, r107.Pos.Offset, r107.Pos.Counts, r107.Neg.Offset, r107.Neg.Counts, w64 (x39 + 1)))
 else
 some (.brk (c29, c30, c31, c32, c35, c36))
noncomputable def fold_Sum (a0 : List api_Hist) : Option (api_Hist × Int) :=
 flow (loop (fold_Sum_lp1 a0) (20, 0, 0, [], 0, [], 0)) fun (c44, c45, c46, c47, c50, c51) =>
 some ((api_Hist.mk c44 c45 (api_Side.mk c46 c47) (api_Side.mk c50 c51)), 0)


end Go.Lg
