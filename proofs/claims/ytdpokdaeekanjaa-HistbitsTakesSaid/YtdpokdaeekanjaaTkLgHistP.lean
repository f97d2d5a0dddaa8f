/- The plain functions, printed by gen.py. -/
import Derived.Test.YtdpokdaeekanjaaTkLgExt
import Derived.Test.YtdpokdaeekanjaaTkLgBitsP
set_option linter.unusedVariables false
namespace Go.Lg
structure api_Side where
  Offset : Int
  Counts : List UInt64
  deriving DecidableEq
structure api_Hist where
  Scale : Int
  Zero : UInt64
  Pos : api_Side
  Neg : api_Side
  deriving DecidableEq
structure histbits_Row where
  n : Int
  last : api_Hist
  deriving DecidableEq
structure histbits_shape where
  scale : Int
  posAt : Int
  posSize : Int
  negAt : Int
  negSize : Int
  deriving DecidableEq
structure anon_struct_to_api_Side_a_api_Side_b_api_Side where
  to : Option api_Side
  a : api_Side
  b : api_Side
  deriving DecidableEq
structure ref09_Pair where
  X : api_Hist
  Y : api_Hist
  E : Int
  deriving DecidableEq
structure ref10_State where
  L : List Int
  At : Int
  E : Int
  deriving DecidableEq
structure ref10_Got where
  H : api_Hist
  N : Int
  E : Int
  deriving DecidableEq
structure histbits_reader where
  r : Option bitio_Reader
  e : Int
  deriving DecidableEq
noncomputable def hist_sides (a0 : api_Hist) : Option (List api_Side) :=
 some [a0.Pos, a0.Neg]
noncomputable def hist_Total_lp2 (e67 : api_Side) : (UInt64 × UInt64 × Int) → Option (Rnd (UInt64 × UInt64 × Int) (UInt64 × UInt64) (UInt64 × UInt64)) := fun (sum91, over92, x93) =>
 bif decide (x93 < (e67.Counts.length : Int)) then
 (idx e67.Counts x93).bind fun e103 =>
 lett ((add64S sum91 e103 (0 : UInt64))) fun sum115 =>
 lett ((add64C sum91 e103 (0 : UInt64))) fun carry116 =>
 lett ((over92 ||| carry116)) fun over117 =>
 some (.next (sum115, over117, w64 (x93 + 1)))
 else
 some (.brk (sum91, over92))
noncomputable def hist_Total_lp1 (r28 : List api_Side) : (UInt64 × UInt64 × Int) → Option (Rnd (UInt64 × UInt64 × Int) (UInt64 × UInt64) (UInt64 × UInt64)) := fun (sum48, over49, x50) =>
 bif decide (x50 < 2) then
 (idx r28 x50).bind fun e67 =>
 (flow (loop (hist_Total_lp2 e67) (sum48, over49, 0)) fun (sum94, over95) =>
 some (sum94, over95)).bind fun (sum87, over88) =>
 some (.next (sum87, over88, w64 (x50 + 1)))
 else
 some (.brk (sum48, over49))
noncomputable def hist_Total (a0 : api_Hist) : Option (UInt64 × Bool) :=
 (hist_sides a0).bind fun r28 =>
 (flow (loop (hist_Total_lp1 r28) (a0.Zero, 0, 0)) fun (sum54, over55) =>
 some (sum54, over55)).bind fun (sum41, over42) =>
 bif (!decide (over42 = 0)) then
 some (0, false)
 else
 some (sum41, true)
noncomputable def hist_check (a0 : api_Side) : Option Int :=
 lett ((a0.Counts.length : Int)) fun nv22 =>
 lett (decide (160 < nv22)) fun t23 =>
 bif t23 then
 some 4
 else
 lett (((decide (nv22 = 0)) && (!decide (a0.Offset = 0)))) fun t27 =>
 bif t27 then
 some 3
 else
 lett (decide (nv22 = 0)) fun t30 =>
 bif t30 then
 some 0
 else
 (idx a0.Counts 0).bind fun e33 =>
 (bif decide (e33 = 0) then
 some true
 else
 (idx a0.Counts (w64 (nv22 - 1))).bind fun e49 =>
 some (decide (e49 = 0))).bind fun x45 =>
 bif x45 then
 some 3
 else
 lett (((decide (a0.Offset < (-1073741824))) || (decide (w64 (1073741824 - (w64 (nv22 - 1))) < a0.Offset)))) fun t64 =>
 bif t64 then
 some 1
 else
 some 0
noncomputable def hist_Check_lp1 (r31 : List api_Side) : Int → Option (Rnd Int Unit (Flow Unit Int)) := fun x49 =>
 bif decide (x49 < 2) then
 (idx r31 x49).bind fun e64 =>
 (hist_check e64).bind fun r84 =>
 bif (!decide (r84 = 0)) then
 outr (outs (some r84))
 else
 some (.next (w64 (x49 + 1)))
 else
 some (.brk ())
noncomputable def hist_Check (a0 : api_Hist) : Option Int :=
 bif ((decide (a0.Scale < (-10))) || (decide (20 < a0.Scale))) then
 some 1
 else
 (hist_sides a0).bind fun r31 =>
 flow (flow (loop (hist_Check_lp1 r31) 0) fun (_ : Unit) =>
 some (.go ())) fun (_ : Unit) =>
 (hist_Total a0).bind fun (r101, r102) =>
 bif (!r102) then
 some 4
 else
 some 0
noncomputable def ref08_sum_lp1 (a1 : List UInt64) : (UInt64 × Int) → Option (Rnd (UInt64 × Int) UInt64 (UInt64 × Bool)) := fun (a12, i13) =>
 bif decide (i13 < (a1.length : Int)) then
 (idx a1 i13).bind fun e22 =>
 bif decide (((18446744073709551615 : UInt64) - a12) < e22) then
 outr (some (0, false))
 else
 (idx a1 i13).bind fun e36 =>
 lett ((a12 + e36)) fun a48 =>
 lett (w64 (i13 + 1)) fun i49 =>
 some (.next (a48, i49))
 else
 some (.brk a12)
noncomputable def ref08_sum (a0 : UInt64) (a1 : List UInt64) : Option (UInt64 × Bool) :=
 flow (loop (ref08_sum_lp1 a1) (a0, 0)) fun a14 =>
 some (a14, true)
noncomputable def ref08_Total (a0 : api_Hist) : Option (UInt64 × Bool) :=
 (ref08_sum a0.Zero a0.Pos.Counts).bind fun (r27, r28) =>
 bif (!r28) then
 some (0, false)
 else
 (ref08_sum r27 a0.Neg.Counts).bind fun (r42, r43) =>
 some (r42, r43)
noncomputable def ref08_side (a0 : api_Side) : Option Int :=
 lett ((a0.Counts.length : Int)) fun nv22 =>
 bif decide (160 < nv22) then
 some 4
 else
 bif decide (nv22 = 0) then
 bif (!decide (a0.Offset = 0)) then
 some 3
 else
 some 0
 else
 (idx a0.Counts 0).bind fun e29 =>
 (bif decide (e29 = 0) then
 some true
 else
 (idx a0.Counts (w64 (nv22 - 1))).bind fun e45 =>
 some (decide (e45 = 0))).bind fun x41 =>
 bif x41 then
 some 3
 else
 bif (((decide (a0.Offset < (-1073741824))) || (decide (1073741824 < a0.Offset))) || (decide (1073741824 < w64 ((w64 (a0.Offset + nv22)) - 1)))) then
 some 1
 else
 some 0
noncomputable def ref08_Check (a0 : api_Hist) : Option Int :=
 bif ((decide (a0.Scale < (-10))) || (decide (20 < a0.Scale))) then
 some 1
 else
 (ref08_side a0.Pos).bind fun r30 =>
 bif (!decide (r30 = 0)) then
 some r30
 else
 (ref08_side a0.Neg).bind fun r44 =>
 bif (!decide (r44 = 0)) then
 some r44
 else
 (ref08_Total a0).bind fun (r59, r60) =>
 bif (!r60) then
 some 4
 else
 some 0
noncomputable def ref08_SameSide_lp1 (a0 : api_Side) (a1 : api_Side) : Int → Option (Rnd Int Unit Bool) := fun i39 =>
 bif decide (i39 < (a0.Counts.length : Int)) then
 (idx a0.Counts i39).bind fun e60 =>
 (idx a1.Counts i39).bind fun e75 =>
 bif (!decide (e60 = e75)) then
 outr (some false)
 else
 lett (w64 (i39 + 1)) fun i92 =>
 some (.next i92)
 else
 some (.brk ())
noncomputable def ref08_SameSide (a0 : api_Side) (a1 : api_Side) : Option Bool :=
 bif ((!decide (a0.Offset = a1.Offset)) || (!decide ((a0.Counts.length : Int) = (a1.Counts.length : Int)))) then
 some false
 else
 flow (loop (ref08_SameSide_lp1 a0 a1) 0) fun (_ : Unit) =>
 some true
noncomputable def ref08_Same (a0 : api_Hist) (a1 : api_Hist) : Option Bool :=
 (bif ((decide (a0.Scale = a1.Scale)) && (decide (a0.Zero = a1.Zero))) then
 (ref08_SameSide a0.Pos a1.Pos).bind fun r55 =>
 some r55
 else
 some false).bind fun x45 =>
 (bif x45 then
 (ref08_SameSide a0.Neg a1.Neg).bind fun r78 =>
 some r78
 else
 some false).bind fun x64 =>
 some x64
def slices_Clone_uint64_uint64 (a0 : List UInt64) : Option (List UInt64) := app [] a0
noncomputable def histbits_NewRow  : Option histbits_Row :=
 some (histbits_Row.mk 0 (api_Hist.mk 0 0 (api_Side.mk 0 []) (api_Side.mk 0 [])))
noncomputable def hist_Clone (a0 : api_Hist) : Option api_Hist :=
 (slices_Clone_uint64_uint64 a0.Pos.Counts).bind fun r60 =>
 (slices_Clone_uint64_uint64 a0.Neg.Counts).bind fun r82 =>
 some (api_Hist.mk a0.Scale a0.Zero (api_Side.mk a0.Pos.Offset r60) (api_Side.mk a0.Neg.Offset r82))
noncomputable def histbits_of (a0 : api_Hist) : Option histbits_shape :=
 some (histbits_shape.mk a0.Scale a0.Pos.Offset (a0.Pos.Counts.length : Int) a0.Neg.Offset (a0.Neg.Counts.length : Int))
noncomputable def histbits_counts (a0 : api_Hist) : Option (List UInt64) :=
 (app [a0.Zero] a0.Pos.Counts).bind fun xs32 =>
 (app xs32 a0.Neg.Counts).bind fun xs41 =>
 some xs41
noncomputable def histbits_Row_Len (a0 : histbits_Row) : Option Int :=
 some a0.n
noncomputable def ref10_State_bits (a0 : ref10_State) (a1 : Int) : Option (Int × ref10_State) :=
 bif (!decide (a0.E = 0)) then
 some (0, a0)
 else
 bif decide (w64 ((a0.L.length : Int) - a0.At) < a1) then
 some (0, (ref10_State.mk a0.L a0.At 2))
 else
 lett (w64 (a0.At + a1)) fun t25 =>
 (slc a0.L (w64 (t25 - a1)) t25).bind fun t32 =>
 (ref01_Number t32).bind fun r38 =>
 lett (w64 (r38.toNat : Int)) fun t47 =>
 some (t47, (ref10_State.mk a0.L t25 a0.E))
noncomputable def ref10_all (a0 : api_Hist) : Option (List UInt64) :=
 (app [a0.Zero] a0.Pos.Counts).bind fun xs32 =>
 (app xs32 a0.Neg.Counts).bind fun xs41 =>
 some xs41
noncomputable def ref10_State_small (a0 : ref10_State) : Option (UInt64 × ref10_State) :=
 bif (!decide (a0.E = 0)) then
 some (0, a0)
 else
 (slc a0.L a0.At (a0.L.length : Int)).bind fun t45 =>
 ((ref06_GetSmall t45).bind fun r64 =>
 some (r64.V, r64.N, r64.E)).bind fun (x55, x56, x57) =>
 lett (w64 (a0.At + x56)) fun t114 =>
 some (x55, (ref10_State.mk a0.L t114 x57))
noncomputable def ref10_State_side_lp1 (r20 : Int) : (List UInt64 × Int) → Option (Rnd (List UInt64 × Int) (List UInt64) (api_Side × ref10_State)) := fun (c92, i95) =>
 bif decide (i95 < r20) then
 (app c92 [0]).bind fun xs118 =>
 lett (w64 (i95 + 1)) fun i134 =>
 some (.next (xs118, i134))
 else
 some (.brk c92)
noncomputable def ref10_State_side (a0 : ref10_State) : Option (api_Side × ref10_State) :=
 (ref10_State_bits a0 8).bind fun (r20, r21) =>
 (bif ((decide (r21.E = 0)) && (decide (160 < r20))) then
 some 4
 else
 some r21.E).bind fun c36 =>
 bif ((!decide (c36 = 0)) || (decide (r20 = 0))) then
 some ((api_Side.mk 0 []), (ref10_State.mk r21.L r21.At c36))
 else
 (ref10_State_small (ref10_State.mk r21.L r21.At c36)).bind fun (r59, r60) =>
 (ref02_Zag r59).bind fun r74 =>
 flow (loop (ref10_State_side_lp1 r20) ([], 0)) fun c100 =>
 some ((api_Side.mk r74 c100), r60)
noncomputable def ref10_Alike (a0 : api_Hist) (a1 : api_Hist) : Option Bool :=
 lett ((((((decide (a0.Scale = a1.Scale)) && (decide (a0.Pos.Offset = a1.Pos.Offset))) && (decide (a0.Neg.Offset = a1.Neg.Offset))) && (decide ((a0.Pos.Counts.length : Int) = (a1.Pos.Counts.length : Int)))) && (decide ((a0.Neg.Counts.length : Int) = (a1.Neg.Counts.length : Int))))) fun t54 =>
 some t54
noncomputable def ref10_Get_lp1 (same44 : Bool) (was81 : List UInt64) (nv241 : Int) : (List Int × Int × Int × List UInt64 × Int) → Option (Rnd (List Int × Int × Int × List UInt64 × Int) (List Int × Int × Int × List UInt64) (List Int × Int × Int × List UInt64)) := fun (c257, c260, c261, now262, i265) =>
 bif decide (i265 < nv241) then
 ((ref10_State_small (ref10_State.mk c257 c260 c261)).bind fun (r302, r303) =>
 (bif same44 then
 (idx was81 i265).bind fun e332 =>
 (ref02_Zag r302).bind fun r355 =>
 lett ((e332 + (toU64 r355))) fun v370 =>
 some v370
 else
 some r302).bind fun v317 =>
 (app now262 [v317]).bind fun xs379 =>
 some (r303.L, r303.At, r303.E, xs379)).bind fun (c289, c292, c293, now294) =>
 lett (w64 (i265 + 1)) fun i399 =>
 some (.next (c289, c292, c293, now294, i399))
 else
 some (.brk (c257, c260, c261, now262))
noncomputable def ref10_Get (a0 : List api_Hist) (a1 : List Int) : Option ref10_Got :=
 (ref10_State_bits (ref10_State.mk a1 0 0) 1).bind fun (r29, r30) =>
 lett (decide (r29 = 1)) fun same44 =>
 bif (same44 && (decide ((a0.length : Int) = 0))) then
 some (ref10_Got.mk (api_Hist.mk 0 0 (api_Side.mk 0 []) (api_Side.mk 0 [])) 0 3)
 else
 (bif same44 then
 (idx a0 (w64 ((a0.length : Int) - 1))).bind fun e95 =>
 (ref10_all e95).bind fun r124 =>
 some (r30.L, r30.At, r30.E, e95.Scale, e95.Zero, e95.Pos.Offset, e95.Pos.Counts, e95.Neg.Offset, e95.Neg.Counts, r124)
 else
 (ref10_State_bits r30 5).bind fun (r159, r160) =>
 lett (w64 (r159 - 10)) fun t174 =>
 (ref10_State_side r160).bind fun (r181, r182) =>
 (ref10_State_side r182).bind fun (r209, r210) =>
 some (r210.L, r210.At, r210.E, t174, 0, r181.Offset, r181.Counts, r209.Offset, r209.Counts, [])).bind fun (c65, c68, c69, c71, c72, c73, c74, c77, c78, was81) =>
 lett (w64 ((w64 (1 + (c74.length : Int))) + (c78.length : Int))) fun nv241 =>
 (flow (loop (ref10_Get_lp1 same44 was81 nv241) (c65, c68, c69, [], 0)) fun (c270, c273, c274, now275) =>
 some (c270, c273, c274, now275)).bind fun (c243, c246, c247, now248) =>
 bif (!decide (c247 = 0)) then
 some (ref10_Got.mk (api_Hist.mk 0 0 (api_Side.mk 0 []) (api_Side.mk 0 [])) 0 c247)
 else
 lett (w64 (1 + (c74.length : Int))) fun k428 =>
 (idx now248 0).bind fun e429 =>
 (slc now248 1 k428).bind fun t442 =>
 (slc now248 k428 (now248.length : Int)).bind fun t458 =>
 (ref08_Check (api_Hist.mk c71 e429 (api_Side.mk c73 t442) (api_Side.mk c77 t458))).bind fun r473 =>
 bif (!decide (r473 = 0)) then
 some (ref10_Got.mk (api_Hist.mk 0 0 (api_Side.mk 0 []) (api_Side.mk 0 [])) 0 r473)
 else
 (bif ((!same44) && (decide (0 < (a0.length : Int)))) then
 (idx a0 (w64 ((a0.length : Int) - 1))).bind fun e577 =>
 (ref10_Alike e577 (api_Hist.mk c71 e429 (api_Side.mk c73 t442) (api_Side.mk c77 t458))).bind fun r623 =>
 some r623
 else
 some false).bind fun x543 =>
 bif x543 then
 some (ref10_Got.mk (api_Hist.mk 0 0 (api_Side.mk 0 []) (api_Side.mk 0 [])) 0 3)
 else
 some (ref10_Got.mk (api_Hist.mk c71 e429 (api_Side.mk c73 t442) (api_Side.mk c77 t458)) c246 0)
def rep_api_Side : Rep api_Side := Rep.via (Rep.pair Rep.i (Rep.sl Rep.u)) fun d => (d.Offset, d.Counts)
def rep_api_Hist : Rep api_Hist := Rep.via (Rep.pair Rep.i (Rep.pair Rep.u (Rep.pair rep_api_Side rep_api_Side))) fun d => (d.Scale, d.Zero, d.Pos, d.Neg)
end Go.Lg
