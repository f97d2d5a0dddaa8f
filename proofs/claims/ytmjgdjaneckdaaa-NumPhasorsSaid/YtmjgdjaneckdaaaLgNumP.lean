/- The plain functions, printed by gen.py. -/
import Derived.Test.YtmjgdjaneckdaaaLgFlt
set_option linter.unusedVariables false
namespace Go.Lg
noncomputable def num_Odd (a0 : UInt64) : Option Bool :=
 lett (decide (9218868437227405312 < (a0 &&& ~~~(9223372036854775808 : UInt64)))) fun t11 =>
 some t11

noncomputable def num_Canon (a0 : UInt64) : Option UInt64 :=
 (num_Odd a0).bind fun r11 =>
 bif r11 then
 some 9221120237041090561
 else
 some a0

noncomputable def num_Add (a0 : UInt64) (a1 : UInt64) : Option UInt64 :=
  some (fAdd a0 a1)

noncomputable def num_Sub (a0 : UInt64) (a1 : UInt64) : Option UInt64 :=
  some (fSub a0 a1)

noncomputable def num_Less (a0 : UInt64) (a1 : UInt64) : Option Bool :=
  some (fLess a0 a1)

noncomputable def law05_awake  : Option Bool :=
 (num_Add (4607182418800017408 : UInt64) (4607182418800017408 : UInt64)).bind fun r11 =>
 (bif decide (r11 = 4611686018427387904) then
 (num_Sub (9218868437227405312 : UInt64) (9218868437227405312 : UInt64)).bind fun r27 =>
 some (decide (r27 = 9221120237041090561))
 else
 some false).bind fun x20 =>
 (bif x20 then
 (num_Less (13830554455654793216 : UInt64) (0 : UInt64)).bind fun r43 =>
 some r43
 else
 some false).bind fun x36 =>
 (bif x36 then
 (num_Odd (9218868437227405313 : UInt64)).bind fun r59 =>
 some r59
 else
 some false).bind fun x52 =>
 some x52

noncomputable def ref05_Odd (a0 : UInt64) : Option Bool :=
 lett (((decide (((a0 / 4503599627370496) % 2048) = 2047)) && (!decide ((a0 % 4503599627370496) = 0)))) fun t12 =>
 some t12

noncomputable def ref05_Finite (a0 : UInt64) : Option Bool :=
 lett ((!decide (((a0 / 4503599627370496) % 2048) = 2047))) fun t11 =>
 some t11

noncomputable def ref05_wide (a0 : UInt64) : Option (UInt64 × Int) :=
 lett (w64 (((a0 / 4503599627370496) % 2048).toNat : Int)) fun e11 =>
 lett ((a0 % 4503599627370496)) fun m12 =>
 bif decide (e11 = 0) then
 some (m12, 1)
 else
 lett ((m12 + 4503599627370496)) fun t15 =>
 some (t15, e11)

noncomputable def ref05_shifted_lp1 (a1 : Int) : (UInt64 × Int) → Option (Rnd (UInt64 × Int) UInt64 UInt64) := fun (m11, i12) =>
 bif decide (i12 < a1) then
 bif decide (m11 < 2) then
 outr (some m11)
 else
 lett (((m11 / 2) ||| (m11 % 2))) fun m23 =>
 lett (w64 (i12 + 1)) fun i24 =>
 some (.next (m23, i24))
 else
 some (.brk m11)
noncomputable def ref05_shifted (a0 : UInt64) (a1 : Int) : Option UInt64 :=
 flow (loop (ref05_shifted_lp1 a1) (a0, 0)) fun m13 =>
 some m13

noncomputable def ref05_round_lp1 : (UInt64 × Int) → Option (Rnd (UInt64 × Int) (UInt64 × Int) (UInt64 × Int)) := fun (m20, e21) =>
 bif decide (72057594037927936 ≤ m20) then
 (ref05_shifted m20 1).bind fun r37 =>
 lett (w64 (e21 + 1)) fun e46 =>
 some (.next (r37, e46))
 else
 some (.brk (m20, e21))
noncomputable def ref05_round_lp2 : (UInt64 × Int) → Option (Rnd (UInt64 × Int) (UInt64 × Int) (UInt64 × Int)) := fun (m51, e52) =>
 bif ((decide (m51 < 36028797018963968)) && (decide (1 < e52))) then
 lett (((2 : UInt64) * m51)) fun m63 =>
 lett (w64 (e52 - 1)) fun e64 =>
 some (.next (m63, e64))
 else
 some (.brk (m51, e52))
noncomputable def ref05_round (a0 : UInt64) (a1 : Int) (a2 : Bool) : Option UInt64 :=
 bif decide (a0 = 0) then
 some 0
 else
 (flow (loop (ref05_round_lp1) (a0, a1)) fun (m25, e26) =>
 some (m25, e26)).bind fun (m13, e14) =>
 (flow (loop (ref05_round_lp2) (m13, e14)) fun (m53, e54) =>
 some (m53, e54)).bind fun (m47, e48) =>
 lett ((m47 % 8)) fun rest65 =>
 lett ((m47 / 8)) fun m66 =>
 (bif ((decide (4 < rest65)) || ((decide (rest65 = 4)) && (decide ((m66 % 2) = 1)))) then
 lett ((m66 + 1)) fun m73 =>
 some m73
 else
 some m66).bind fun m67 =>
 (bif decide (9007199254740992 ≤ m67) then
 lett ((m67 / 2)) fun m79 =>
 lett (w64 (e48 + 1)) fun e80 =>
 some (m79, e80)
 else
 some (m67, e48)).bind fun (m74, e75) =>
 (bif decide (e75 < 2047) then
 bif decide (4503599627370496 ≤ m74) then
 lett (((m74 - 4503599627370496) + ((toU64 e75) * 4503599627370496))) fun out86 =>
 some out86
 else
 some m74
 else
 some 9218868437227405312).bind fun out81 =>
 bif a2 then
 lett ((out81 + 9223372036854775808)) fun t88 =>
 some t88
 else
 some out81

noncomputable def ref05_Add (a0 : UInt64) (a1 : UInt64) : Option UInt64 :=
 (ref05_Odd a0).bind fun r11 =>
 (bif r11 then
 some true
 else
 (ref05_Odd a1).bind fun r27 =>
 some r27).bind fun x20 =>
 bif x20 then
 some 9221120237041090561
 else
 (ref05_Finite a0).bind fun r38 =>
 (bif (!r38) then
 (ref05_Finite a1).bind fun r54 =>
 some (!r54)
 else
 some false).bind fun x47 =>
 bif (x47 && (!decide (a0 = a1))) then
 some 9221120237041090561
 else
 (ref05_Finite a0).bind fun r66 =>
 bif (!r66) then
 some a0
 else
 (ref05_Finite a1).bind fun r77 =>
 bif (!r77) then
 some a1
 else
 (ref05_wide a0).bind fun (r88, r89) =>
 (ref05_wide a1).bind fun (r98, r99) =>
 lett (((8 : UInt64) * r88)) fun m108 =>
 lett (((8 : UInt64) * r98)) fun nv109 =>
 (bif decide (r89 < r99) then
 (ref05_shifted m108 (w64 (r99 - r89))).bind fun r119 =>
 some (r119, r99, nv109)
 else
 (ref05_shifted nv109 (w64 (r89 - r99))).bind fun r128 =>
 some (m108, r89, r128)).bind fun (m110, e111, nv112) =>
 lett (decide (9223372036854775808 ≤ a0)) fun an137 =>
 lett (decide (9223372036854775808 ≤ a1)) fun bn138 =>
 bif decide (an137 = bn138) then
 bif ((decide (m110 = 0)) && (decide (nv112 = 0))) then
 some a0
 else
 (ref05_round (m110 + nv112) e111 an137).bind fun r143 =>
 some r143
 else
 bif decide (nv112 ≤ m110) then
 (ref05_round (m110 - nv112) e111 (an137 && (decide (nv112 < m110)))).bind fun r155 =>
 some r155
 else
 (ref05_round (nv112 - m110) e111 bn138).bind fun r165 =>
 some r165

noncomputable def ref05_Minus (a0 : UInt64) : Option UInt64 :=
 bif decide (9223372036854775808 ≤ a0) then
 lett ((a0 - 9223372036854775808)) fun t12 =>
 some t12
 else
 lett ((a0 + 9223372036854775808)) fun t14 =>
 some t14

noncomputable def ref05_Sub (a0 : UInt64) (a1 : UInt64) : Option UInt64 :=
 (ref05_Odd a1).bind fun r11 =>
 bif r11 then
 some 9221120237041090561
 else
 (ref05_Minus a1).bind fun r22 =>
 (ref05_Add a0 r22).bind fun r31 =>
 some r31

noncomputable def ref05_Less (a0 : UInt64) (a1 : UInt64) : Option Bool :=
 (ref05_Odd a0).bind fun r11 =>
 (bif r11 then
 some true
 else
 (ref05_Odd a1).bind fun r27 =>
 some r27).bind fun x20 =>
 bif x20 then
 some false
 else
 lett ((a0 % 9223372036854775808)) fun x38 =>
 lett ((a1 % 9223372036854775808)) fun y39 =>
 bif ((decide (x38 = 0)) && (decide (y39 = 0))) then
 some false
 else
 bif ((decide (9223372036854775808 ≤ a0)) && (decide (9223372036854775808 ≤ a1))) then
 lett (decide (y39 < x38)) fun t45 =>
 some t45
 else
 bif ((decide (a0 < 9223372036854775808)) && (decide (a1 < 9223372036854775808))) then
 lett (decide (x38 < y39)) fun t49 =>
 some t49
 else
 lett (decide (9223372036854775808 ≤ a0)) fun t51 =>
 some t51

noncomputable def law05_NumAdds (a0 : UInt64) (a1 : UInt64) : Option Bool :=
 (law05_awake).bind fun r11 =>
 bif (!r11) then
 some false
 else
 (num_Add a0 a1).bind fun r22 =>
 (ref05_Add a0 a1).bind fun r31 =>
 (bif decide (r22 = r31) then
 (num_Sub a0 a1).bind fun r47 =>
 (ref05_Sub a0 a1).bind fun r56 =>
 some (decide (r47 = r56))
 else
 some false).bind fun x40 =>
 (bif x40 then
 (num_Less a0 a1).bind fun r72 =>
 (ref05_Less a0 a1).bind fun r81 =>
 some (decide (r72 = r81))
 else
 some false).bind fun x65 =>
 some x65

noncomputable def num_Finite (a0 : UInt64) : Option Bool :=
 lett ((!decide ((a0 &&& 9218868437227405312) = 9218868437227405312))) fun t11 =>
 some t11

noncomputable def ref05_Canon (a0 : UInt64) : Option UInt64 :=
 (ref05_Odd a0).bind fun r11 =>
 bif r11 then
 some 9221120237041090561
 else
 some a0

noncomputable def law05_NumKinds (a0 : UInt64) : Option Bool :=
 (law05_awake).bind fun r11 =>
 bif (!r11) then
 some false
 else
 (num_Odd a0).bind fun r22 =>
 (ref05_Odd a0).bind fun r31 =>
 (bif decide (r22 = r31) then
 (num_Finite a0).bind fun r47 =>
 (ref05_Finite a0).bind fun r56 =>
 some (decide (r47 = r56))
 else
 some false).bind fun x40 =>
 (bif x40 then
 (num_Canon a0).bind fun r72 =>
 (ref05_Canon a0).bind fun r81 =>
 some (decide (r72 = r81))
 else
 some false).bind fun x65 =>
 (bif x65 then
 (num_Canon a0).bind fun r97 =>
 (num_Canon r97).bind fun r106 =>
 (num_Canon a0).bind fun r115 =>
 some (decide (r106 = r115))
 else
 some false).bind fun x90 =>
 some x90

noncomputable def law05_NumTurns (a0 : UInt64) (a1 : UInt64) : Option Bool :=
 (law05_awake).bind fun r11 =>
 bif (!r11) then
 some false
 else
 (num_Add a0 a1).bind fun r22 =>
 (num_Add a1 a0).bind fun r31 =>
 (bif (!decide (r22 = r31)) then
 some true
 else
 (num_Odd a1).bind fun r47 =>
 (bif (!r47) then
 (num_Sub a0 a1).bind fun r63 =>
 (num_Add a0 (a1 ^^^ 9223372036854775808)).bind fun r72 =>
 some (!decide (r63 = r72))
 else
 some false).bind fun x56 =>
 some x56).bind fun x40 =>
 bif x40 then
 some false
 else
 (num_Finite a0).bind fun r83 =>
 bif r83 then
 (num_Sub a0 a0).bind fun r93 =>
 lett (decide (r93 = 0)) fun t102 =>
 some t102
 else
 (num_Sub a0 a0).bind fun r104 =>
 lett (decide (r104 = 9221120237041090561)) fun t113 =>
 some t113


end Go.Lg
