/- The plain functions, printed by gen.py. -/
import Derived.Test.YtmjgdjaneckdaaaLgCpx
import Derived.Test.YtmjgdjaneckdaaaLgNumP
set_option linter.unusedVariables false
namespace Go.Lg
noncomputable def num_AddPhasor (a0 : UInt64) (a1 : UInt64) (a2 : UInt64) (a3 : UInt64) : Option (UInt64 × UInt64) :=
  some (fAdd a0 a2, fAdd a1 a3)

noncomputable def num_Turn (a0 : UInt64) (a1 : UInt64) : Option (UInt64 × UInt64) :=
  some (fCan (a1.toNat ^^^ 9223372036854775808), fCan a0.toNat)

noncomputable def num_SubPhasor (a0 : UInt64) (a1 : UInt64) (a2 : UInt64) (a3 : UInt64) : Option (UInt64 × UInt64) :=
  some (fSub a0 a2, fSub a1 a3)

noncomputable def law05_NumPhasors_lp1 : (UInt64 × UInt64 × Int) → Option (Rnd (UInt64 × UInt64 × Int) (UInt64 × UInt64) (UInt64 × UInt64)) := fun (e156, f157, i158) =>
 bif decide (i158 < 4) then
 (num_Turn e156 f157).bind fun (r174, r175) =>
 lett (w64 (i158 + 1)) fun i184 =>
 some (.next (r174, r175, i184))
 else
 some (.brk (e156, f157))
noncomputable def law05_NumPhasors (a0 : UInt64) (a1 : UInt64) (a2 : UInt64) (a3 : UInt64) : Option Bool :=
 (law05_awake).bind fun r11 =>
 bif (!r11) then
 some false
 else
 (num_AddPhasor a0 a1 a2 a3).bind fun (r22, r23) =>
 (ref05_Add a0 a2).bind fun r32 =>
 (bif (!decide (r22 = r32)) then
 some true
 else
 (ref05_Add a1 a3).bind fun r48 =>
 some (!decide (r23 = r48))).bind fun x41 =>
 bif x41 then
 some false
 else
 (num_Turn r22 r23).bind fun (r59, r60) =>
 (num_Turn a0 a1).bind fun (r69, r70) =>
 (num_Turn a2 a3).bind fun (r79, r80) =>
 (num_AddPhasor r69 r70 r79 r80).bind fun (r89, r90) =>
 (ref05_Odd r23).bind fun r99 =>
 (bif (r99 && (!decide (r59 = 9221120237041090561))) then
 some true
 else
 (ref05_Odd r23).bind fun r116 =>
 (bif (!r116) then
 (ref05_Minus r23).bind fun r132 =>
 some (!decide (r59 = r132))
 else
 some false).bind fun x125 =>
 some x125).bind fun x109 =>
 bif (x109 || (!decide (r60 = r22))) then
 some false
 else
 bif (((!decide ((r23 % 9223372036854775808) = 0)) && ((!decide (r89 = r59)) || (!decide (r90 = r60)))) || (!decide (r90 = r60))) then
 some false
 else
 (flow (loop (law05_NumPhasors_lp1) (r69, r70, 0)) fun (e162, f163) =>
 some (e162, f163)).bind fun (e149, f150) =>
 (num_Turn a0 a1).bind fun (r185, r186) =>
 (num_SubPhasor a0 a1 a2 a3).bind fun (r195, r196) =>
 (bif ((decide (e149 = r185)) && (decide (f150 = r186))) then
 (ref05_Sub a0 a2).bind fun r213 =>
 some (decide (r195 = r213))
 else
 some false).bind fun x206 =>
 (bif x206 then
 (ref05_Sub a1 a3).bind fun r229 =>
 some (decide (r196 = r229))
 else
 some false).bind fun x222 =>
 some x222


end Go.Lg
