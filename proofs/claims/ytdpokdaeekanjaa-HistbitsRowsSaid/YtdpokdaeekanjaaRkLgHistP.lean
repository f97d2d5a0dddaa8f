/- The plain functions, printed by gen.py. -/
import Derived.Test.YtdpokdaeekanjaaRkLgExt
import Derived.Test.YtdpokdaeekanjaaRkLgBitsP
set_option linter.unusedVariables false
namespace Go.Lg
structure api_Side where
  Offset : Int
  Counts : List UInt64
  deriving DecidableEq
structure api_Hist where
  Scale : Int
  Zero : UInt64
  Pos : api_Side
  Neg : api_Side
  deriving DecidableEq
structure histbits_Row where
  n : Int
  last : api_Hist
  deriving DecidableEq
structure histbits_shape where
  scale : Int
  posAt : Int
  posSize : Int
  negAt : Int
  negSize : Int
  deriving DecidableEq
structure anon_struct_to_api_Side_a_api_Side_b_api_Side where
  to : Option api_Side
  a : api_Side
  b : api_Side
  deriving DecidableEq
structure ref09_Pair where
  X : api_Hist
  Y : api_Hist
  E : Int
  deriving DecidableEq
structure ref10_State where
  L : List Int
  At : Int
  E : Int
  deriving DecidableEq
structure ref10_Got where
  H : api_Hist
  N : Int
  E : Int
  deriving DecidableEq
structure histbits_reader where
  r : Option bitio_Reader
  e : Int
  deriving DecidableEq
noncomputable def hist_sides (a0 : api_Hist) : Option (List api_Side) :=
 some [a0.Pos, a0.Neg]
noncomputable def hist_Total_lp2 (e67 : api_Side) : (UInt64 × UInt64 × Int) → Option (Rnd (UInt64 × UInt64 × Int) (UInt64 × UInt64) (UInt64 × UInt64)) := fun (sum91, over92, x93) =>
 bif decide (x93 < (e67.Counts.length : Int)) then
 (idx e67.Counts x93).bind fun e103 =>
 lett ((add64S sum91 e103 (0 : UInt64))) fun sum115 =>
 lett ((add64C sum91 e103 (0 : UInt64))) fun carry116 =>
 lett ((over92 ||| carry116)) fun over117 =>
 some (.next (sum115, over117, w64 (x93 + 1)))
 else
 some (.brk (sum91, over92))
noncomputable def hist_Total_lp1 (r28 : List api_Side) : (UInt64 × UInt64 × Int) → Option (Rnd (UInt64 × UInt64 × Int) (UInt64 × UInt64) (UInt64 × UInt64)) := fun (sum48, over49, x50) =>
 bif decide (x50 < 2) then
 (idx r28 x50).bind fun e67 =>
 (flow (loop (hist_Total_lp2 e67) (sum48, over49, 0)) fun (sum94, over95) =>
 some (sum94, over95)).bind fun (sum87, over88) =>
 some (.next (sum87, over88, w64 (x50 + 1)))
 else
 some (.brk (sum48, over49))
noncomputable def hist_Total (a0 : api_Hist) : Option (UInt64 × Bool) :=
 (hist_sides a0).bind fun r28 =>
 (flow (loop (hist_Total_lp1 r28) (a0.Zero, 0, 0)) fun (sum54, over55) =>
 some (sum54, over55)).bind fun (sum41, over42) =>
 bif (!decide (over42 = 0)) then
 some (0, false)
 else
 some (sum41, true)
noncomputable def hist_check (a0 : api_Side) : Option Int :=
 lett ((a0.Counts.length : Int)) fun nv22 =>
 lett (decide (160 < nv22)) fun t23 =>
 bif t23 then
 some 4
 else
 lett (((decide (nv22 = 0)) && (!decide (a0.Offset = 0)))) fun t27 =>
 bif t27 then
 some 3
 else
 lett (decide (nv22 = 0)) fun t30 =>
 bif t30 then
 some 0
 else
 (idx a0.Counts 0).bind fun e33 =>
 (bif decide (e33 = 0) then
 some true
 else
 (idx a0.Counts (w64 (nv22 - 1))).bind fun e49 =>
 some (decide (e49 = 0))).bind fun x45 =>
 bif x45 then
 some 3
 else
 lett (((decide (a0.Offset < (-1073741824))) || (decide (w64 (1073741824 - (w64 (nv22 - 1))) < a0.Offset)))) fun t64 =>
 bif t64 then
 some 1
 else
 some 0
noncomputable def hist_Check_lp1 (r31 : List api_Side) : Int → Option (Rnd Int Unit (Flow Unit Int)) := fun x49 =>
 bif decide (x49 < 2) then
 (idx r31 x49).bind fun e64 =>
 (hist_check e64).bind fun r84 =>
 bif (!decide (r84 = 0)) then
 outr (outs (some r84))
 else
 some (.next (w64 (x49 + 1)))
 else
 some (.brk ())
noncomputable def hist_Check (a0 : api_Hist) : Option Int :=
 bif ((decide (a0.Scale < (-10))) || (decide (20 < a0.Scale))) then
 some 1
 else
 (hist_sides a0).bind fun r31 =>
 flow (flow (loop (hist_Check_lp1 r31) 0) fun (_ : Unit) =>
 some (.go ())) fun (_ : Unit) =>
 (hist_Total a0).bind fun (r101, r102) =>
 bif (!r102) then
 some 4
 else
 some 0
noncomputable def ref08_Light (a0 : api_Hist) : Option Bool :=
 lett (((decide ((a0.Pos.Counts.length : Int) ≤ 300)) && (decide ((a0.Neg.Counts.length : Int) ≤ 300)))) fun t29 =>
 some t29
noncomputable def ref08_sum_lp1 (a1 : List UInt64) : (UInt64 × Int) → Option (Rnd (UInt64 × Int) UInt64 (UInt64 × Bool)) := fun (a12, i13) =>
 bif decide (i13 < (a1.length : Int)) then
 (idx a1 i13).bind fun e22 =>
 bif decide (((18446744073709551615 : UInt64) - a12) < e22) then
 outr (some (0, false))
 else
 (idx a1 i13).bind fun e36 =>
 lett ((a12 + e36)) fun a48 =>
 lett (w64 (i13 + 1)) fun i49 =>
 some (.next (a48, i49))
 else
 some (.brk a12)
noncomputable def ref08_sum (a0 : UInt64) (a1 : List UInt64) : Option (UInt64 × Bool) :=
 flow (loop (ref08_sum_lp1 a1) (a0, 0)) fun a14 =>
 some (a14, true)
noncomputable def ref08_Total (a0 : api_Hist) : Option (UInt64 × Bool) :=
 (ref08_sum a0.Zero a0.Pos.Counts).bind fun (r27, r28) =>
 bif (!r28) then
 some (0, false)
 else
 (ref08_sum r27 a0.Neg.Counts).bind fun (r42, r43) =>
 some (r42, r43)
noncomputable def ref08_side (a0 : api_Side) : Option Int :=
 lett ((a0.Counts.length : Int)) fun nv22 =>
 bif decide (160 < nv22) then
 some 4
 else
 bif decide (nv22 = 0) then
 bif (!decide (a0.Offset = 0)) then
 some 3
 else
 some 0
 else
 (idx a0.Counts 0).bind fun e29 =>
 (bif decide (e29 = 0) then
 some true
 else
 (idx a0.Counts (w64 (nv22 - 1))).bind fun e45 =>
 some (decide (e45 = 0))).bind fun x41 =>
 bif x41 then
 some 3
 else
 bif (((decide (a0.Offset < (-1073741824))) || (decide (1073741824 < a0.Offset))) || (decide (1073741824 < w64 ((w64 (a0.Offset + nv22)) - 1)))) then
 some 1
 else
 some 0
noncomputable def ref08_Check (a0 : api_Hist) : Option Int :=
 bif ((decide (a0.Scale < (-10))) || (decide (20 < a0.Scale))) then
 some 1
 else
 (ref08_side a0.Pos).bind fun r30 =>
 bif (!decide (r30 = 0)) then
 some r30
 else
 (ref08_side a0.Neg).bind fun r44 =>
 bif (!decide (r44 = 0)) then
 some r44
 else
 (ref08_Total a0).bind fun (r59, r60) =>
 bif (!r60) then
 some 4
 else
 some 0
noncomputable def ref08_SameSide_lp1 (a0 : api_Side) (a1 : api_Side) : Int → Option (Rnd Int Unit Bool) := fun i39 =>
 bif decide (i39 < (a0.Counts.length : Int)) then
 (idx a0.Counts i39).bind fun e60 =>
 (idx a1.Counts i39).bind fun e75 =>
 bif (!decide (e60 = e75)) then
 outr (some false)
 else
 lett (w64 (i39 + 1)) fun i92 =>
 some (.next i92)
 else
 some (.brk ())
noncomputable def ref08_SameSide (a0 : api_Side) (a1 : api_Side) : Option Bool :=
 bif ((!decide (a0.Offset = a1.Offset)) || (!decide ((a0.Counts.length : Int) = (a1.Counts.length : Int)))) then
 some false
 else
 flow (loop (ref08_SameSide_lp1 a0 a1) 0) fun (_ : Unit) =>
 some true
noncomputable def ref08_Same (a0 : api_Hist) (a1 : api_Hist) : Option Bool :=
 (bif ((decide (a0.Scale = a1.Scale)) && (decide (a0.Zero = a1.Zero))) then
 (ref08_SameSide a0.Pos a1.Pos).bind fun r55 =>
 some r55
 else
 some false).bind fun x45 =>
 (bif x45 then
 (ref08_SameSide a0.Neg a1.Neg).bind fun r78 =>
 some r78
 else
 some false).bind fun x64 =>
 some x64
def slices_Clone_uint64_uint64 (a0 : List UInt64) : Option (List UInt64) := app [] a0
noncomputable def histbits_NewRow  : Option histbits_Row :=
 some (histbits_Row.mk 0 (api_Hist.mk 0 0 (api_Side.mk 0 []) (api_Side.mk 0 [])))
noncomputable def hist_Clone (a0 : api_Hist) : Option api_Hist :=
 (slices_Clone_uint64_uint64 a0.Pos.Counts).bind fun r60 =>
 (slices_Clone_uint64_uint64 a0.Neg.Counts).bind fun r82 =>
 some (api_Hist.mk a0.Scale a0.Zero (api_Side.mk a0.Pos.Offset r60) (api_Side.mk a0.Neg.Offset r82))
noncomputable def histbits_of (a0 : api_Hist) : Option histbits_shape :=
 some (histbits_shape.mk a0.Scale a0.Pos.Offset (a0.Pos.Counts.length : Int) a0.Neg.Offset (a0.Neg.Counts.length : Int))
noncomputable def histbits_counts (a0 : api_Hist) : Option (List UInt64) :=
 (app [a0.Zero] a0.Pos.Counts).bind fun xs32 =>
 (app xs32 a0.Neg.Counts).bind fun xs41 =>
 some xs41
noncomputable def histbits_Row_Len (a0 : histbits_Row) : Option Int :=
 some a0.n
noncomputable def law10_some_lp1 (a0 : List api_Hist) : Int → Option (Rnd Int Unit Bool) := fun i14 =>
 bif decide (i14 < (a0.length : Int)) then
 (idx a0 i14).bind fun e22 =>
 (bif decide (170 < (e22.Pos.Counts.length : Int)) then
 some true
 else
 (idx a0 i14).bind fun e42 =>
 some (decide (170 < (e42.Neg.Counts.length : Int)))).bind fun x38 =>
 bif x38 then
 outr (some false)
 else
 lett (w64 (i14 + 1)) fun i60 =>
 some (.next i60)
 else
 some (.brk ())
noncomputable def law10_some (a0 : List api_Hist) : Option Bool :=
 bif decide (30 < (a0.length : Int)) then
 some false
 else
 flow (loop (law10_some_lp1 a0) 0) fun (_ : Unit) =>
 some true
noncomputable def ref10_all (a0 : api_Hist) : Option (List UInt64) :=
 (app [a0.Zero] a0.Pos.Counts).bind fun xs32 =>
 (app xs32 a0.Neg.Counts).bind fun xs41 =>
 some xs41
noncomputable def ref10_Alike (a0 : api_Hist) (a1 : api_Hist) : Option Bool :=
 lett ((((((decide (a0.Scale = a1.Scale)) && (decide (a0.Pos.Offset = a1.Pos.Offset))) && (decide (a0.Neg.Offset = a1.Neg.Offset))) && (decide ((a0.Pos.Counts.length : Int) = (a1.Pos.Counts.length : Int)))) && (decide ((a0.Neg.Counts.length : Int) = (a1.Neg.Counts.length : Int))))) fun t54 =>
 some t54
noncomputable def histbits_Row_Clone (a0 : histbits_Row) : Option histbits_Row :=
 (hist_Clone a0.last).bind fun r46 =>
 some (histbits_Row.mk a0.n r46)
noncomputable def ref10_number (a0 : Int) (a1 : Int) : Option (List Int) :=
 (ref01_Row (toU64 a0) a1).bind fun (r11, r12) =>
 some r11
noncomputable def ref10_shape (a0 : api_Side) : Option (List Int) :=
 (ref10_number (a0.Counts.length : Int) 8).bind fun r22 =>
 bif decide (0 < (a0.Counts.length : Int)) then
 (ref02_Zig a0.Offset).bind fun r37 =>
 (ref06_Small r37).bind fun r46 =>
 (app r22 r46).bind fun xs58 =>
 some xs58
 else
 some r22
noncomputable def ref10_Put_lp1 (r167 : List UInt64) (r181 : List UInt64) : (List Int × Int) → Option (Rnd (List Int × Int) (List Int) (List Int)) := fun (out199, i202) =>
 bif decide (i202 < (r167.length : Int)) then
 (idx r167 i202).bind fun e238 =>
 (idx r181 i202).bind fun e262 =>
 (ref02_Zig (w64 ((e238 - e262).toNat : Int))).bind fun r287 =>
 (ref06_Small r287).bind fun r296 =>
 (app out199 r296).bind fun xs308 =>
 lett (w64 (i202 + 1)) fun i320 =>
 some (.next (xs308, i320))
 else
 some (.brk out199)
noncomputable def ref10_Put_lp2 (r416 : List UInt64) : (List Int × Int) → Option (Rnd (List Int × Int) (List Int) (List Int)) := fun (out428, i431) =>
 bif decide (i431 < (r416.length : Int)) then
 (idx r416 i431).bind fun e453 =>
 (ref06_Small e453).bind fun r463 =>
 (app out428 r463).bind fun xs475 =>
 lett (w64 (i431 + 1)) fun i482 =>
 some (.next (xs475, i482))
 else
 some (.brk out428)
noncomputable def ref10_Put (a0 : List api_Hist) (a1 : api_Hist) : Option (List Int) :=
 lett ((a0.length : Int)) fun nv28 =>
 (bif decide (0 < nv28) then
 (idx a0 (w64 (nv28 - 1))).bind fun e57 =>
 (ref10_Alike e57 a1).bind fun r90 =>
 some r90
 else
 some false).bind fun x40 =>
 bif x40 then
 (idx a0 (w64 (nv28 - 1))).bind fun e130 =>
 (ref10_all a1).bind fun r167 =>
 (ref10_all e130).bind fun r181 =>
 flow (loop (ref10_Put_lp1 r167 r181) ([1], 0)) fun out206 =>
 some out206
 else
 (ref10_number (w64 (a1.Scale + 10)) 5).bind fun r333 =>
 (app [0] r333).bind fun xs345 =>
 (ref10_shape a1.Pos).bind fun r360 =>
 (app xs345 r360).bind fun xs372 =>
 (ref10_shape a1.Neg).bind fun r389 =>
 (app xs372 r389).bind fun xs401 =>
 (ref10_all a1).bind fun r416 =>
 flow (loop (ref10_Put_lp2 r416) (xs401, 0)) fun out435 =>
 some out435
def rep_api_Side : Rep api_Side := Rep.via (Rep.pair Rep.i (Rep.sl Rep.u)) fun d => (d.Offset, d.Counts)
def rep_api_Hist : Rep api_Hist := Rep.via (Rep.pair Rep.i (Rep.pair Rep.u (Rep.pair rep_api_Side rep_api_Side))) fun d => (d.Scale, d.Zero, d.Pos, d.Neg)
end Go.Lg
