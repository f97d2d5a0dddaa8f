/- Lemmas about the given model and about plain data, which the rows stand on: no statement of the program by itself. -/
import Derived.Test.YtdpokdaeekanjaaFkLgPart0
set_option linter.unusedVariables false
namespace Go.Lg
structure api_Side where
  Offset : Int
  Counts : List UInt64
  deriving DecidableEq
structure api_Hist where
  Scale : Int
  Zero : UInt64
  Pos : api_Side
  Neg : api_Side
  deriving DecidableEq
structure histbits_Row where
  n : Int
  last : api_Hist
  deriving DecidableEq
structure histbits_shape where
  scale : Int
  posAt : Int
  posSize : Int
  negAt : Int
  negSize : Int
  deriving DecidableEq
structure anon_struct_to_api_Side_a_api_Side_b_api_Side where
  to : Option api_Side
  a : api_Side
  b : api_Side
  deriving DecidableEq
structure ref09_Pair where
  X : api_Hist
  Y : api_Hist
  E : Int
  deriving DecidableEq
structure ref10_State where
  L : List Int
  At : Int
  E : Int
  deriving DecidableEq
structure ref10_Got where
  H : api_Hist
  N : Int
  E : Int
  deriving DecidableEq
structure histbits_reader where
  r : Option bitio_Reader
  e : Int
  deriving DecidableEq
noncomputable def hist_sides (a0 : api_Hist) : Option (List api_Side) :=
 some [a0.Pos, a0.Neg]
noncomputable def hist_Total_lp2 (e67 : api_Side) : (UInt64 × UInt64 × Int) → Option (Rnd (UInt64 × UInt64 × Int) (UInt64 × UInt64) (UInt64 × UInt64)) := fun (sum91, over92, x93) =>
 bif decide (x93 < (e67.Counts.length : Int)) then
 (idx e67.Counts x93).bind fun e103 =>
 lett ((add64S sum91 e103 (0 : UInt64))) fun sum115 =>
 lett ((add64C sum91 e103 (0 : UInt64))) fun carry116 =>
 lett ((over92 ||| carry116)) fun over117 =>
 some (.next (sum115, over117, w64 (x93 + 1)))
 else
 some (.brk (sum91, over92))
noncomputable def hist_Total_lp1 (r28 : List api_Side) : (UInt64 × UInt64 × Int) → Option (Rnd (UInt64 × UInt64 × Int) (UInt64 × UInt64) (UInt64 × UInt64)) := fun (sum48, over49, x50) =>
 bif decide (x50 < 2) then
 (idx r28 x50).bind fun e67 =>
 (flow (loop (hist_Total_lp2 e67) (sum48, over49, 0)) fun (sum94, over95) =>
 some (sum94, over95)).bind fun (sum87, over88) =>
 some (.next (sum87, over88, w64 (x50 + 1)))
 else
 some (.brk (sum48, over49))
noncomputable def hist_Total (a0 : api_Hist) : Option (UInt64 × Bool) :=
 (hist_sides a0).bind fun r28 =>
 (flow (loop (hist_Total_lp1 r28) (a0.Zero, 0, 0)) fun (sum54, over55) =>
 some (sum54, over55)).bind fun (sum41, over42) =>
 bif (!decide (over42 = 0)) then
 some (0, false)
 else
 some (sum41, true)
noncomputable def hist_check (a0 : api_Side) : Option Int :=
 lett ((a0.Counts.length : Int)) fun nv22 =>
 lett (decide (160 < nv22)) fun t23 =>
 bif t23 then
 some 4
 else
 lett (((decide (nv22 = 0)) && (!decide (a0.Offset = 0)))) fun t27 =>
 bif t27 then
 some 3
 else
 lett (decide (nv22 = 0)) fun t30 =>
 bif t30 then
 some 0
 else
 (idx a0.Counts 0).bind fun e33 =>
 (bif decide (e33 = 0) then
 some true
 else
 (idx a0.Counts (w64 (nv22 - 1))).bind fun e49 =>
 some (decide (e49 = 0))).bind fun x45 =>
 bif x45 then
 some 3
 else
 lett (((decide (a0.Offset < (-1073741824))) || (decide (w64 (1073741824 - (w64 (nv22 - 1))) < a0.Offset)))) fun t64 =>
 bif t64 then
 some 1
 else
 some 0
noncomputable def hist_Check_lp1 (r31 : List api_Side) : Int → Option (Rnd Int Unit (Flow Unit Int)) := fun x49 =>
 bif decide (x49 < 2) then
 (idx r31 x49).bind fun e64 =>
 (hist_check e64).bind fun r84 =>
 bif (!decide (r84 = 0)) then
 outr (outs (some r84))
 else
 some (.next (w64 (x49 + 1)))
 else
 some (.brk ())
noncomputable def hist_Check (a0 : api_Hist) : Option Int :=
 bif ((decide (a0.Scale < (-10))) || (decide (20 < a0.Scale))) then
 some 1
 else
 (hist_sides a0).bind fun r31 =>
 flow (flow (loop (hist_Check_lp1 r31) 0) fun (_ : Unit) =>
 some (.go ())) fun (_ : Unit) =>
 (hist_Total a0).bind fun (r101, r102) =>
 bif (!r102) then
 some 4
 else
 some 0
noncomputable def hist_span (a0 : api_Side) (a1 : UInt64) : Option Int :=
 lett ((a0.Counts.length : Int)) fun nv22 =>
 bif decide (nv22 = 0) then
 some 0
 else
 lett (w64 ((w64 ((shrI (w64 ((w64 (a0.Offset + nv22)) - 1)) a1.toNat) - (shrI a0.Offset a1.toNat))) + 1)) fun t25 =>
 some t25
noncomputable def hist_down_lp1 (a0 : api_Side) (a1 : UInt64) : (List UInt64 × Int) → Option (Rnd (List UInt64 × Int) (List UInt64) api_Side) := fun (c204, x207) =>
 bif decide (x207 < (a0.Counts.length : Int)) then
 (idx a0.Counts x207).bind fun e228 =>
 (idx c204 (w64 ((shrI (w64 (a0.Offset + x207)) a1.toNat) - (shrI a0.Offset a1.toNat)))).bind fun e243 =>
 (idx c204 (w64 ((shrI (w64 (a0.Offset + x207)) a1.toNat) - (shrI a0.Offset a1.toNat)))).bind fun e253 =>
 lett ((e243 + e228)) fun t263 =>
 (setI c204 (w64 ((shrI (w64 (a0.Offset + x207)) a1.toNat) - (shrI a0.Offset a1.toNat))) t263).bind fun xs264 =>
 some (.next (xs264, w64 (x207 + 1)))
 else
 some (.brk c204)
noncomputable def hist_down (a0 : api_Side) (a1 : UInt64) : Option api_Side :=
 bif decide ((a0.Counts.length : Int) = 0) then
 some (api_Side.mk 0 [])
 else
 ((hist_span a0 a1).bind fun r70 =>
 ((mk r70 (0 : UInt64)).bind fun t90 =>
 some t90).bind fun x81 =>
 some x81).bind fun x60 =>
 flow (loop (hist_down_lp1 a0 a1) (x60, 0)) fun c211 =>
 some (api_Side.mk (shrI a0.Offset a1.toNat) c211)
noncomputable def hist_Down (a0 : api_Hist) (a1 : Int) : Option (api_Hist × Int) :=
 (hist_Check a0).bind fun r36 =>
 bif (!decide (r36 = 0)) then
 some ((api_Hist.mk 0 0 (api_Side.mk 0 []) (api_Side.mk 0 [])), r36)
 else
 bif ((decide (a1 < 0)) || (decide (w64 (a0.Scale - (-10)) < a1))) then
 some ((api_Hist.mk 0 0 (api_Side.mk 0 []) (api_Side.mk 0 [])), 1)
 else
 (hist_down a0.Pos (toU64 a1)).bind fun r117 =>
 (hist_down a0.Neg (toU64 a1)).bind fun r132 =>
 some ((api_Hist.mk (w64 (a0.Scale - a1)) a0.Zero r117 r132), 0)
noncomputable def hist_At (a0 : api_Side) (a1 : Int) : Option UInt64 :=
 bif ((decide (a1 < a0.Offset)) || (decide (toU64 (a0.Counts.length : Int) ≤ ((toU64 a1) - (toU64 a0.Offset))))) then
 some 0
 else
 (idx a0.Counts (w64 (a1 - a0.Offset))).bind fun e25 =>
 some e25
noncomputable def ref08_Light (a0 : api_Hist) : Option Bool :=
 lett (((decide ((a0.Pos.Counts.length : Int) ≤ 300)) && (decide ((a0.Neg.Counts.length : Int) ≤ 300)))) fun t29 =>
 some t29
noncomputable def ref08_sum_lp1 (a1 : List UInt64) : (UInt64 × Int) → Option (Rnd (UInt64 × Int) UInt64 (UInt64 × Bool)) := fun (a12, i13) =>
 bif decide (i13 < (a1.length : Int)) then
 (idx a1 i13).bind fun e22 =>
 bif decide (((18446744073709551615 : UInt64) - a12) < e22) then
 outr (some (0, false))
 else
 (idx a1 i13).bind fun e36 =>
 lett ((a12 + e36)) fun a48 =>
 lett (w64 (i13 + 1)) fun i49 =>
 some (.next (a48, i49))
 else
 some (.brk a12)
noncomputable def ref08_sum (a0 : UInt64) (a1 : List UInt64) : Option (UInt64 × Bool) :=
 flow (loop (ref08_sum_lp1 a1) (a0, 0)) fun a14 =>
 some (a14, true)
noncomputable def ref08_Total (a0 : api_Hist) : Option (UInt64 × Bool) :=
 (ref08_sum a0.Zero a0.Pos.Counts).bind fun (r27, r28) =>
 bif (!r28) then
 some (0, false)
 else
 (ref08_sum r27 a0.Neg.Counts).bind fun (r42, r43) =>
 some (r42, r43)
noncomputable def ref08_side (a0 : api_Side) : Option Int :=
 lett ((a0.Counts.length : Int)) fun nv22 =>
 bif decide (160 < nv22) then
 some 4
 else
 bif decide (nv22 = 0) then
 bif (!decide (a0.Offset = 0)) then
 some 3
 else
 some 0
 else
 (idx a0.Counts 0).bind fun e29 =>
 (bif decide (e29 = 0) then
 some true
 else
 (idx a0.Counts (w64 (nv22 - 1))).bind fun e45 =>
 some (decide (e45 = 0))).bind fun x41 =>
 bif x41 then
 some 3
 else
 bif (((decide (a0.Offset < (-1073741824))) || (decide (1073741824 < a0.Offset))) || (decide (1073741824 < w64 ((w64 (a0.Offset + nv22)) - 1)))) then
 some 1
 else
 some 0
noncomputable def ref08_Check (a0 : api_Hist) : Option Int :=
 bif ((decide (a0.Scale < (-10))) || (decide (20 < a0.Scale))) then
 some 1
 else
 (ref08_side a0.Pos).bind fun r30 =>
 bif (!decide (r30 = 0)) then
 some r30
 else
 (ref08_side a0.Neg).bind fun r44 =>
 bif (!decide (r44 = 0)) then
 some r44
 else
 (ref08_Total a0).bind fun (r59, r60) =>
 bif (!r60) then
 some 4
 else
 some 0
noncomputable def ref08_SameSide_lp1 (a0 : api_Side) (a1 : api_Side) : Int → Option (Rnd Int Unit Bool) := fun i39 =>
 bif decide (i39 < (a0.Counts.length : Int)) then
 (idx a0.Counts i39).bind fun e60 =>
 (idx a1.Counts i39).bind fun e75 =>
 bif (!decide (e60 = e75)) then
 outr (some false)
 else
 lett (w64 (i39 + 1)) fun i92 =>
 some (.next i92)
 else
 some (.brk ())
noncomputable def ref08_SameSide (a0 : api_Side) (a1 : api_Side) : Option Bool :=
 bif ((!decide (a0.Offset = a1.Offset)) || (!decide ((a0.Counts.length : Int) = (a1.Counts.length : Int)))) then
 some false
 else
 flow (loop (ref08_SameSide_lp1 a0 a1) 0) fun (_ : Unit) =>
 some true
noncomputable def ref08_Same (a0 : api_Hist) (a1 : api_Hist) : Option Bool :=
 (bif ((decide (a0.Scale = a1.Scale)) && (decide (a0.Zero = a1.Zero))) then
 (ref08_SameSide a0.Pos a1.Pos).bind fun r55 =>
 some r55
 else
 some false).bind fun x45 =>
 (bif x45 then
 (ref08_SameSide a0.Neg a1.Neg).bind fun r78 =>
 some r78
 else
 some false).bind fun x64 =>
 some x64
noncomputable def ref08_Trim_lp1 : (List UInt64 × Int) → Option (Rnd (List UInt64 × Int) (List UInt64 × Int) (List UInt64 × Int)) := fun (l36, at39) =>
 (bif decide (0 < (l36.length : Int)) then
 (idx l36 0).bind fun e62 =>
 some (decide (e62 = 0))
 else
 some false).bind fun x58 =>
 bif x58 then
 (slc l36 1 (l36.length : Int)).bind fun t75 =>
 lett (w64 (at39 + 1)) fun at79 =>
 some (.next (t75, at79))
 else
 some (.brk (l36, at39))
noncomputable def ref08_Trim_lp2 : (List UInt64) → Option (Rnd (List UInt64) (List UInt64) (List UInt64)) := fun l88 =>
 (bif decide (0 < (l88.length : Int)) then
 (idx l88 (w64 ((l88.length : Int) - 1))).bind fun e110 =>
 some (decide (e110 = 0))
 else
 some false).bind fun x106 =>
 bif x106 then
 (slc l88 0 (w64 ((l88.length : Int) - 1))).bind fun t123 =>
 some (.next t123)
 else
 some (.brk l88)
noncomputable def ref08_Trim (a0 : api_Side) : Option api_Side :=
 (flow (loop (ref08_Trim_lp1) (a0.Counts, a0.Offset)) fun (l43, at46) =>
 some (l43, at46)).bind fun (l27, at30) =>
 (flow (loop (ref08_Trim_lp2) l27) fun l94 =>
 some l94).bind fun l80 =>
 bif decide ((l80.length : Int) = 0) then
 some (api_Side.mk 0 [])
 else
 (app [] l80).bind fun xs134 =>
 some (api_Side.mk at30 xs134)
noncomputable def ref08_half (a0 : Int) : Option Int :=
 bif decide (a0 < 0) then
 lett (w64 (0 - (w64 ((w64 (1 - a0)).tdiv 2)))) fun t12 =>
 some t12
 else
 lett (w64 (a0.tdiv 2)) fun t14 =>
 some t14
noncomputable def ref08_once_lp1 (a0 : api_Side) : (Int × List UInt64 × Int) → Option (Rnd (Int × List UInt64 × Int) (Int × List UInt64) api_Side) := fun (c32, c33, i36) =>
 bif decide (i36 < (a0.Counts.length : Int)) then
 ((ref08_half (w64 (a0.Offset + i36))).bind fun r72 =>
 bif decide ((c33.length : Int) = 0) then
 (idx a0.Counts i36).bind fun e89 =>
 some (r72, [e89])
 else
 bif decide (r72 = w64 ((w64 (c32 + (c33.length : Int))) - 1)) then
 lett ((c33.length : Int)) fun nv122 =>
 (idx c33 (w64 (nv122 - 1))).bind fun e126 =>
 (idx a0.Counts i36).bind fun e139 =>
 lett ((e126 + e139)) fun last153 =>
 (slc c33 0 (w64 (nv122 - 1))).bind fun t160 =>
 (app [] t160).bind fun xs164 =>
 (app xs164 [last153]).bind fun xs175 =>
 some (c32, xs175)
 else
 (idx a0.Counts i36).bind fun e219 =>
 (app c33 [e219]).bind fun xs245 =>
 some (c32, xs245)).bind fun (c63, c64) =>
 lett (w64 (i36 + 1)) fun i271 =>
 some (.next (c63, c64, i271))
 else
 some (.brk (c32, c33))
noncomputable def ref08_once (a0 : api_Side) : Option api_Side :=
 flow (loop (ref08_once_lp1 a0) (0, [], 0)) fun (c41, c42) =>
 some (api_Side.mk c41 c42)
noncomputable def ref08_Down_lp1 (a1 : Int) : (Int × Int × List UInt64 × Int × List UInt64 × Int) → Option (Rnd (Int × Int × List UInt64 × Int × List UInt64 × Int) (Int × Int × List UInt64 × Int × List UInt64) (api_Hist × Int)) := fun (c293, c294, c295, c298, c299, i302) =>
 bif decide (i302 < a1) then
 (ref08_once (api_Side.mk c294 c295)).bind fun r366 =>
 (ref08_once (api_Side.mk c298 c299)).bind fun r380 =>
 lett (w64 (i302 + 1)) fun i410 =>
 some (.next (w64 (c293 - 1), r366.Offset, r366.Counts, r380.Offset, r380.Counts, i410))
 else
 some (.brk (c293, c294, c295, c298, c299))
noncomputable def ref08_Down (a0 : api_Hist) (a1 : Int) : Option (api_Hist × Int) :=
 (ref08_Check a0).bind fun r36 =>
 bif (!decide (r36 = 0)) then
 some ((api_Hist.mk 0 0 (api_Side.mk 0 []) (api_Side.mk 0 [])), r36)
 else
 bif ((decide (a1 < 0)) || (decide (w64 (a0.Scale - (-10)) < a1))) then
 some ((api_Hist.mk 0 0 (api_Side.mk 0 []) (api_Side.mk 0 [])), 1)
 else
 ((ref08_Trim a0.Pos).bind fun r115 =>
 ((ref08_Trim a0.Neg).bind fun r145 =>
 some (r115.Counts, r145.Offset, r145.Counts)).bind fun (x129, x132, x133) =>
 some (r115.Offset, x129, x132, x133)).bind fun (x99, x100, x103, x104) =>
 flow (loop (ref08_Down_lp1 a1) (a0.Scale, x99, x100, x103, x104, 0)) fun (c307, c308, c309, c312, c313) =>
 some ((api_Hist.mk c307 a0.Zero (api_Side.mk c308 c309) (api_Side.mk c312 c313)), 0)
def slices_Clone_uint64_uint64 (a0 : List UInt64) : Option (List UInt64) := app [] a0
noncomputable def hist_Trim_lp1 (a0 : api_Side) (to33 : Int) : Int → Option (Rnd Int Int Int) := fun from37 =>
 (bif decide (from37 < to33) then
 (idx a0.Counts from37).bind fun e49 =>
 some (decide (e49 = 0))
 else
 some false).bind fun x45 =>
 bif x45 then
 lett (w64 (from37 + 1)) fun from62 =>
 some (.next from62)
 else
 some (.brk from37)
noncomputable def hist_Trim_lp2 (a0 : api_Side) (from34 : Int) : Int → Option (Rnd Int Int Int) := fun to66 =>
 (bif decide (from34 < to66) then
 (idx a0.Counts (w64 (to66 - 1))).bind fun e78 =>
 some (decide (e78 = 0))
 else
 some false).bind fun x74 =>
 bif x74 then
 lett (w64 (to66 - 1)) fun to91 =>
 some (.next to91)
 else
 some (.brk to66)
noncomputable def hist_Trim (a0 : api_Side) : Option api_Side :=
 lett ((a0.Counts.length : Int)) fun to33 =>
 (flow (loop (hist_Trim_lp1 a0 to33) 0) fun from38 =>
 some from38).bind fun from34 =>
 (flow (loop (hist_Trim_lp2 a0 from34) to33) fun to67 =>
 some to67).bind fun to63 =>
 bif decide (from34 = to63) then
 some (api_Side.mk 0 [])
 else
 (slc a0.Counts from34 to63).bind fun t128 =>
 (slices_Clone_uint64_uint64 t128).bind fun r136 =>
 some (api_Side.mk (w64 (a0.Offset + from34)) r136)
noncomputable def hist_Clone (a0 : api_Hist) : Option api_Hist :=
 (slices_Clone_uint64_uint64 a0.Pos.Counts).bind fun r60 =>
 (slices_Clone_uint64_uint64 a0.Neg.Counts).bind fun r82 =>
 some (api_Hist.mk a0.Scale a0.Zero (api_Side.mk a0.Pos.Offset r60) (api_Side.mk a0.Neg.Offset r82))
noncomputable def fold_Level_lp1 (a0 : api_Hist) (a1 : api_Hist) : Int → Option (Rnd Int Unit (Flow Unit (api_Hist × api_Hist × Int))) := fun x63 =>
 bif decide (x63 < 2) then
 (idx [a0, a1] x63).bind fun e95 =>
 (hist_Check e95).bind fun r123 =>
 bif (!decide (r123 = 0)) then
 outr (outs (some ((api_Hist.mk 0 0 (api_Side.mk 0 []) (api_Side.mk 0 [])), (api_Hist.mk 0 0 (api_Side.mk 0 []) (api_Side.mk 0 [])), r123)))
 else
 some (.next (w64 (x63 + 1)))
 else
 some (.brk ())
noncomputable def fold_Level (a0 : api_Hist) (a1 : api_Hist) : Option (api_Hist × api_Hist × Int) :=
 flow (flow (loop (fold_Level_lp1 a0 a1) 0) fun (_ : Unit) =>
 some (.go ())) fun (_ : Unit) =>
 lett ((min a0.Scale a1.Scale)) fun scale153 =>
 (hist_Down a0 (w64 (a0.Scale - scale153))).bind fun (r164, r165) =>
 (hist_Down a1 (w64 (a1.Scale - scale153))).bind fun (r208, r209) =>
 some (r164, r208, 0)
noncomputable def fold_ends (a0 : api_Side) : Option (Int × Int) :=
 lett (w64 (a0.Offset + (a0.Counts.length : Int))) fun to26 =>
 some (a0.Offset, to26)
noncomputable def fold_cover (a0 : api_Side) (a1 : api_Side) : Option (Int × Int) :=
 bif decide ((a0.Counts.length : Int) = 0) then
 lett ((a1.Counts.length : Int)) fun nv41 =>
 some (a1.Offset, nv41)
 else
 bif decide ((a1.Counts.length : Int) = 0) then
 lett ((a0.Counts.length : Int)) fun nv49 =>
 some (a0.Offset, nv49)
 else
 (fold_ends a0).bind fun (r51, r52) =>
 (fold_ends a1).bind fun (r63, r64) =>
 lett ((min r51 r63)) fun from73 =>
 lett ((max r52 r64)) fun end74 =>
 lett (w64 (end74 - from73)) fun nv75 =>
 some (from73, nv75)
noncomputable def fold_left_lp1 (a0 : api_Side) (a1 : api_Side) : Int → Option (Rnd Int Unit (Flow Unit (api_Side × Bool))) := fun x45 =>
 bif decide (x45 < (a1.Counts.length : Int)) then
 (idx a1.Counts x45).bind fun e59 =>
 (hist_At a0 (w64 (a1.Offset + x45))).bind fun r80 =>
 bif decide (r80 < e59) then
 outr (outs (some ((api_Side.mk 0 []), false)))
 else
 some (.next (w64 (x45 + 1)))
 else
 some (.brk ())
noncomputable def fold_left_lp2 (a0 : api_Side) (a1 : api_Side) : (List UInt64 × Int) → Option (Rnd (List UInt64 × Int) (List UInt64) (List UInt64)) := fun (c125, x128) =>
 bif decide (x128 < (a0.Counts.length : Int)) then
 (idx a0.Counts x128).bind fun e146 =>
 (hist_At a1 (w64 (a0.Offset + x128))).bind fun r201 =>
 (app c125 [(e146 - r201)]).bind fun xs218 =>
 some (.next (xs218, w64 (x128 + 1)))
 else
 some (.brk c125)
noncomputable def fold_left (a0 : api_Side) (a1 : api_Side) : Option (api_Side × Bool) :=
 flow (flow (loop (fold_left_lp1 a0 a1) 0) fun (_ : Unit) =>
 some (.go ())) fun (_ : Unit) =>
 (flow (loop (fold_left_lp2 a0 a1) ([], 0)) fun c133 =>
 some c133).bind fun c116 =>
 (hist_Trim (api_Side.mk a0.Offset c116)).bind fun r250 =>
 some (r250, true)
noncomputable def fold_Sub (a0 : api_Hist) (a1 : api_Hist) : Option (api_Hist × Int) :=
 (fold_Level a0 a1).bind fun (r61, r62, r63) =>
 bif (!decide (r63 = 0)) then
 some ((api_Hist.mk 0 0 (api_Side.mk 0 []) (api_Side.mk 0 [])), r63)
 else
 (fold_left r61.Pos r62.Pos).bind fun (r142, r143) =>
 (fold_left r61.Neg r62.Neg).bind fun (r183, r184) =>
 bif (((decide (r61.Zero < r62.Zero)) || (!r143)) || (!r184)) then
 some ((api_Hist.mk 0 0 (api_Side.mk 0 []) (api_Side.mk 0 [])), 7)
 else
 some ((api_Hist.mk r61.Scale (r61.Zero - r62.Zero) r142 r183), 0)
noncomputable def fold_Empty (a0 : api_Hist) : Option Bool :=
 lett ((((decide (a0.Zero = 0)) && (decide ((a0.Pos.Counts.length : Int) = 0))) && (decide ((a0.Neg.Counts.length : Int) = 0)))) fun t30 =>
 some t30
noncomputable def ref09_Level (a0 : api_Hist) (a1 : api_Hist) : Option ref09_Pair :=
 (ref08_Check a0).bind fun r56 =>
 bif (!decide (r56 = 0)) then
 some (ref09_Pair.mk (api_Hist.mk 0 0 (api_Side.mk 0 []) (api_Side.mk 0 [])) (api_Hist.mk 0 0 (api_Side.mk 0 []) (api_Side.mk 0 [])) r56)
 else
 (ref08_Check a1).bind fun r79 =>
 bif (!decide (r79 = 0)) then
 some (ref09_Pair.mk (api_Hist.mk 0 0 (api_Side.mk 0 []) (api_Side.mk 0 [])) (api_Hist.mk 0 0 (api_Side.mk 0 []) (api_Side.mk 0 [])) r79)
 else
 (bif decide (a1.Scale < a0.Scale) then
 some a1.Scale
 else
 some a0.Scale).bind fun s97 =>
 (ref08_Down a0 (w64 (a0.Scale - s97))).bind fun (r106, r107) =>
 (ref08_Down a1 (w64 (a1.Scale - s97))).bind fun (r152, r153) =>
 some (ref09_Pair.mk r106 r152 0)
noncomputable def ref09_At (a0 : api_Side) (a1 : Int) : Option UInt64 :=
 bif ((decide (a1 < a0.Offset)) || (decide (w64 (a0.Offset + (a0.Counts.length : Int)) ≤ a1))) then
 some 0
 else
 (idx a0.Counts (w64 (a1 - a0.Offset))).bind fun e25 =>
 some e25
def rep_api_Side : Rep api_Side := Rep.via (Rep.pair Rep.i (Rep.sl Rep.u)) fun d => (d.Offset, d.Counts)
def rep_api_Hist : Rep api_Hist := Rep.via (Rep.pair Rep.i (Rep.pair Rep.u (Rep.pair rep_api_Side rep_api_Side))) fun d => (d.Scale, d.Zero, d.Pos, d.Neg)
end Go.Lg
namespace Go.Lg
attribute [local irreducible] w64 toU64 toU8 shlU shrU shlB shrB
/-! ### sums of counts -/
def su (l : List UInt64) : Nat := (l.map (·.toNat)).sum
def us (l : List UInt64) : UInt64 := l.foldl (· + ·) 0
theorem su_append (l m : List UInt64) : su (l ++ m) = su l + su m := by simp [su]
theorem su_snoc (l : List UInt64) (x : UInt64) : su (l ++ [x]) = su l + x.toNat := by simp [su]
theorem take_snoc {α : Type} {l : List α} {i : Nat} (h : i < l.length) : l.take (i + 1) = l.take i ++ [l[i]] := List.take_succ_eq_append_getElem h
theorem su_take_le (l : List UInt64) (k : Nat) : su (l.take k) ≤ su l := by
  have := List.take_append_drop k l
  have h2 : su l = su (l.take k) + su (l.drop k) := by rw [← su_append, this]
  omega
theorem or_zero {a b : UInt64} : a ||| b = 0 ↔ a = 0 ∧ b = 0 := by
  constructor
  · intro h
    have h1 : (a ||| b).toBitVec = 0 := by rw [h]; rfl
    rw [UInt64.toBitVec_or] at h1
    have h2 := BitVec.or_eq_zero_iff.1 h1
    exact ⟨UInt64.toBitVec_inj.1 h2.1, UInt64.toBitVec_inj.1 h2.2⟩
  · rintro ⟨rfl, rfl⟩; rfl
/-- a running sum and whether it has passed 2^64 -/
def Acc (T : Nat) (s o : UInt64) : Prop := s.toNat = T % 18446744073709551616 ∧ (o = 0 ↔ T < 18446744073709551616)
theorem Acc.step {T : Nat} {s o : UInt64} (h : Acc T s o) (c : UInt64) : Acc (T + c.toNat) (add64S s c 0) (o ||| add64C s c 0) := by
  obtain ⟨h1, h2⟩ := h
  have hc := UInt64.toNat_lt c
  have hs := UInt64.toNat_lt s
  refine ⟨?_, ?_⟩
  · unfold add64S
    rw [UInt64.add_zero, UInt64.toNat_add, h1]; omega
  · rw [or_zero, h2]
    have h3 : (add64C s c 0).toNat = (s.toNat + c.toNat) / 18446744073709551616 := by
      unfold add64C
      rw [u64_ofNat (by simp; omega)]; simp
    rw [← UInt64.toNat_inj, h3, show (0 : UInt64).toNat = 0 from rfl, h1]
    omega
theorem total_inner (sd : api_Side) (hl : sd.Counts.length ≤ 1000000) (T : Nat) : ∀ (m x : Nat) (s o : UInt64), x + m = sd.Counts.length → Acc (T + su (sd.Counts.take x)) s o →
    ∃ s' o', loop (hist_Total_lp2 sd) (s, o, (x : Int)) = some (.go (s', o')) ∧ Acc (T + su sd.Counts) s' o' := by
  intro m
  induction m with
  | zero =>
    intro x s o hx h
    obtain rfl : x = sd.Counts.length := by omega
    rw [List.take_length] at h
    refine ⟨s, o, loop_brk ?_, h⟩
    unfold hist_Total_lp2
    dsimp only
    rw [bifFd (by omega)]
  | succ m ih =>
    intro x s o hx h
    have hlt : x < sd.Counts.length := by omega
    have h' := h.step sd.Counts[x]
    rw [Nat.add_assoc, ← su_snoc, ← take_snoc hlt] at h'
    obtain ⟨s', o', g1, g2⟩ := ih (x + 1) _ _ (by omega) h'
    refine ⟨s', o', ?_, g2⟩
    rw [← g1]
    refine loop_next ?_
    unfold hist_Total_lp2
    dsimp only
    rw [bifTd (by omega), idx_nat hlt, bind_some, lett_eq, lett_eq, lett_eq, w64_succ (by omega)]
/-- all that a histogram counts -/
def tot (h : api_Hist) : Nat := h.Zero.toNat + su h.Pos.Counts + su h.Neg.Counts
theorem total_eq {h : api_Hist} (hp : h.Pos.Counts.length ≤ 1000000) (hn : h.Neg.Counts.length ≤ 1000000) :
    hist_Total h = some (if tot h < 18446744073709551616 then (UInt64.ofNat (tot h), true) else (0, false)) := by
  have a0 : Acc (h.Zero.toNat + su (h.Pos.Counts.take 0)) h.Zero 0 := by
    have := UInt64.toNat_lt h.Zero
    refine ⟨by simp [su], by simp [su]; omega⟩
  obtain ⟨s1, o1, p1, q1⟩ := total_inner h.Pos hp h.Zero.toNat h.Pos.Counts.length 0 h.Zero 0 (by omega) a0
  obtain ⟨s2, o2, p2, q2⟩ := total_inner h.Neg hn (h.Zero.toNat + su h.Pos.Counts) h.Neg.Counts.length 0 s1 o1 (by omega) (by simpa [su] using q1)
  have p1' : loop (hist_Total_lp2 h.Pos) (h.Zero, 0, 0) = _ := p1
  have p2' : loop (hist_Total_lp2 h.Neg) (s1, o1, 0) = _ := p2
  have r0 : hist_Total_lp1 [h.Pos, h.Neg] (h.Zero, 0, ((0 : Nat) : Int)) = some (.next (s1, o1, ((1 : Nat) : Int))) := by
    unfold hist_Total_lp1
    dsimp only
    rw [bifTd (by omega), idx_nat (by simp), bind_some, w64_succ (by omega)]
    dsimp only [List.getElem_cons_zero]
    rw [p1', flow_go]; rfl
  have r1 : hist_Total_lp1 [h.Pos, h.Neg] (s1, o1, ((1 : Nat) : Int)) = some (.next (s2, o2, ((2 : Nat) : Int))) := by
    unfold hist_Total_lp1
    dsimp only
    rw [bifTd (by omega), idx_nat (by simp), bind_some, w64_succ (by omega)]
    dsimp only [List.getElem_cons_succ, List.getElem_cons_zero]
    rw [p2', flow_go]; rfl
  have r2 : hist_Total_lp1 [h.Pos, h.Neg] (s2, o2, ((2 : Nat) : Int)) = some (.brk (s2, o2)) := by
    unfold hist_Total_lp1
    dsimp only
    rw [bifFd (by omega)]
  have hl : loop (hist_Total_lp1 [h.Pos, h.Neg]) (h.Zero, 0, 0) = some (.go (s2, o2)) := by
    have e : loop (hist_Total_lp1 [h.Pos, h.Neg]) (h.Zero, 0, 0) = loop (hist_Total_lp1 [h.Pos, h.Neg]) (h.Zero, 0, ((0 : Nat) : Int)) := rfl
    rw [e, loop_next r0, loop_next r1, loop_brk r2]
  unfold hist_Total
  rw [show hist_sides h = some [h.Pos, h.Neg] from rfl, bind_some, hl, flow_go]
  dsimp only
  rw [bind_some]
  dsimp only
  have hT : tot h = h.Zero.toNat + su h.Pos.Counts + su h.Neg.Counts := rfl
  rw [← hT] at q2
  by_cases hlt : tot h < 18446744073709551616
  · have e : s2 = UInt64.ofNat (tot h) := by apply UInt64.toNat_inj.1; rw [q2.1, u64_ofNat hlt]; omega
    rw [if_pos hlt, bifF (by rw [decide_eq_true (q2.2.2 hlt)]; rfl), e]
  · rw [if_neg hlt, bifT (by rw [decide_eq_false (fun e => hlt (q2.2.1 e))]; rfl)]
theorem refSum_eq {a : UInt64} {l : List UInt64} (hl : l.length ≤ 1000000) : ref08_sum a l = some (if a.toNat + su l < 18446744073709551616 then (UInt64.ofNat (a.toNat + su l), true) else (0, false)) := by
  have key : ∀ (m i : Nat) (s : UInt64), i + m = l.length → s.toNat = a.toNat + su (l.take i) →
      loop (ref08_sum_lp1 l) (s, (i : Int)) = some (if a.toNat + su l < 18446744073709551616 then .go (UInt64.ofNat (a.toNat + su l)) else .out (0, false)) := by
    intro m
    induction m with
    | zero =>
      intro i s hi hs
      obtain rfl : i = l.length := by omega
      rw [List.take_length] at hs
      have := UInt64.toNat_lt s
      rw [if_pos (by omega), ← hs]
      refine loop_brk ?_
      unfold ref08_sum_lp1
      dsimp only
      rw [bifFd (by omega)]; simp
    | succ m ih =>
      intro i s hi hs
      have hlt : i < l.length := by omega
      have hle : su (l.take (i + 1)) ≤ su l := su_take_le l (i + 1)
      rw [take_snoc hlt, su_snoc] at hle
      have hsl := UInt64.toNat_lt s
      have hsub : ((18446744073709551615 : UInt64) - s).toNat = 18446744073709551615 - s.toNat := by
        rw [UInt64.toNat_sub_of_le]
        · rfl
        · rw [UInt64.le_iff_toNat_le]
          have : (18446744073709551615 : UInt64).toNat = 18446744073709551615 := rfl
          omega
      by_cases hov : 18446744073709551615 - s.toNat < (l[i]).toNat
      · rw [if_neg (by omega)]
        refine loop_out ?_
        unfold ref08_sum_lp1
        dsimp only
        rw [bifTd (by omega), idx_nat hlt, bind_some, bifTd (by rw [UInt64.lt_iff_toNat_lt, hsub]; exact hov)]
        rfl
      · rw [loop_next (s' := (s + l[i], ((i + 1 : Nat) : Int))), ih (i + 1) _ (by omega)]
        · rw [take_snoc hlt, su_snoc, UInt64.toNat_add, hs]; omega
        · unfold ref08_sum_lp1
          dsimp only
          rw [bifTd (by omega), idx_nat hlt, bind_some, bifFd (by rw [UInt64.lt_iff_toNat_lt, hsub]; exact hov), bind_some, lett_eq, lett_eq, w64_succ (by omega)]
  unfold ref08_sum
  have h0 := key l.length 0 a (by omega) (by simp [su])
  have h0' : loop (ref08_sum_lp1 l) (a, 0) = _ := h0
  rw [h0']
  split <;> rfl
theorem refTotal_eq {h : api_Hist} (hp : h.Pos.Counts.length ≤ 1000000) (hn : h.Neg.Counts.length ≤ 1000000) :
    ref08_Total h = some (if tot h < 18446744073709551616 then (UInt64.ofNat (tot h), true) else (0, false)) := by
  unfold ref08_Total
  have hT : tot h = h.Zero.toNat + su h.Pos.Counts + su h.Neg.Counts := rfl
  rw [refSum_eq hp, bind_some]
  by_cases h1 : h.Zero.toNat + su h.Pos.Counts < 18446744073709551616
  · rw [if_pos h1]
    dsimp only
    rw [bifF (by rfl), refSum_eq hn, bind_some, u64_ofNat h1, ← hT]
  · rw [if_neg h1, if_neg (by omega)]
    rfl
/-! ### what is wrong with a side, with a histogram -/
def sideE (s : api_Side) : Int :=
  if 160 < s.Counts.length then 4
  else if s.Counts.length = 0 then (if s.Offset = 0 then 0 else 3)
  else if s.Counts.getD 0 0 = 0 ∨ s.Counts.getD (s.Counts.length - 1) 0 = 0 then 3
  else if s.Offset < -1073741824 ∨ 1073741824 - ((s.Counts.length : Int) - 1) < s.Offset then 1 else 0
theorem ends_eq {c : List UInt64} (h : 0 < c.length) (hl : c.length ≤ 1000000) :
    ((idx c 0).bind fun e33 => (bif decide (e33 = 0) then some true else (idx c (w64 ((c.length : Int) - 1))).bind fun e49 => some (decide (e49 = 0)))) = some (decide (c.getD 0 0 = 0 ∨ c.getD (c.length - 1) 0 = 0)) := by
  have e1 : w64 ((c.length : Int) - 1) = ((c.length - 1 : Nat) : Int) := w64_subN (b := 1) h (by omega)
  rw [idx_0 h, bind_some, e1, idx_nat (by omega), bind_some, getD_lt h, getD_lt (by omega)]
  by_cases h0 : c[0] = 0
  · rw [bifTd h0, decide_eq_true (.inl h0)]
  · rw [bifFd h0]
    congr 1
    rw [decide_eq_decide]
    exact ⟨.inr, fun h => h.elim (fun e => absurd e h0) id⟩
theorem bind_assoc' {α β γ : Type} (x : Option α) (f : α → Option β) (g : β → Option γ) : (x.bind f).bind g = x.bind fun a => (f a).bind g := by cases x <;> rfl
theorem check_eq {s : api_Side} (ho : I64 s.Offset) (hl : s.Counts.length ≤ 1000000) : hist_check s = some (sideE s) := by
  unfold I64 at ho
  unfold hist_check sideE
  rw [lett_eq, lett_eq]
  by_cases h1 : 160 < s.Counts.length
  · rw [bifTd (by omega), if_pos h1]
  rw [bifFd (by omega), if_neg h1, lett_eq]
  by_cases h2 : s.Counts.length = 0
  · rw [if_pos h2]
    by_cases h3 : s.Offset = 0
    · rw [if_pos h3, bifF (by simp [h3]), lett_eq, bifTd (by omega)]
    · rw [if_neg h3, bifT (by simp [h3, h2])]
  rw [if_neg h2, bifF (by simp [h2]), lett_eq, bifFd (by omega), ← bind_assoc', ends_eq (by omega) hl, bind_some]
  by_cases h4 : s.Counts.getD 0 0 = 0 ∨ s.Counts.getD (s.Counts.length - 1) 0 = 0
  · rw [bifTd h4, if_pos h4]
  rw [bifFd h4, if_neg h4, lett_eq, w64_id (x := (s.Counts.length : Int) - 1) (by omega) (by omega), w64_id (by omega) (by omega), ← Bool.decide_or]
  by_cases h5 : s.Offset < -1073741824 ∨ 1073741824 - ((s.Counts.length : Int) - 1) < s.Offset
  · rw [bifTd h5, if_pos h5]
  · rw [bifFd h5, if_neg h5]
theorem side_eq {s : api_Side} (ho : I64 s.Offset) (hl : s.Counts.length ≤ 1000000) : ref08_side s = some (sideE s) := by
  unfold I64 at ho
  unfold ref08_side sideE
  rw [lett_eq]
  by_cases h1 : 160 < s.Counts.length
  · rw [bifTd (by omega), if_pos h1]
  rw [bifFd (by omega), if_neg h1]
  by_cases h2 : s.Counts.length = 0
  · rw [if_pos h2, bifTd (by omega)]
    by_cases h3 : s.Offset = 0
    · rw [if_pos h3, bifF (by simp [h3])]
    · rw [if_neg h3, bifT (by simp [h3])]
  rw [if_neg h2, bifFd (by omega), ← bind_assoc', ends_eq (by omega) hl, bind_some]
  by_cases h4 : s.Counts.getD 0 0 = 0 ∨ s.Counts.getD (s.Counts.length - 1) 0 = 0
  · rw [bifTd h4, if_pos h4]
  rw [bifFd h4, if_neg h4, ← Bool.decide_or, ← Bool.decide_or]
  by_cases h5 : s.Offset < -1073741824 ∨ 1073741824 - ((s.Counts.length : Int) - 1) < s.Offset
  · rw [if_pos h5, bifTd]
    by_cases h6 : 1073741824 < s.Offset
    · exact .inl (.inr h6)
    · rcases h5 with h5 | h5
      · exact .inl (.inl h5)
      · refine .inr ?_
        rw [w64_id (x := s.Offset + (s.Counts.length : Int)) (by omega) (by omega), w64_id (by omega) (by omega)]; omega
  · rw [if_neg h5, bifFd]
    rw [w64_id (x := s.Offset + (s.Counts.length : Int)) (by omega) (by omega), w64_id (by omega) (by omega)]; omega
def histE (h : api_Hist) : Int :=
  if h.Scale < -10 ∨ 20 < h.Scale then 1
  else if sideE h.Pos ≠ 0 then sideE h.Pos
  else if sideE h.Neg ≠ 0 then sideE h.Neg
  else if tot h < 18446744073709551616 then 0 else 4
structure OkH (h : api_Hist) : Prop where
  s : I64 h.Scale
  po : I64 h.Pos.Offset
  no : I64 h.Neg.Offset
  pl : h.Pos.Counts.length ≤ 1000000
  nl : h.Neg.Counts.length ≤ 1000000
theorem Check_eq {h : api_Hist} (o : OkH h) : hist_Check h = some (histE h) := by
  have c1 := check_eq o.po o.pl
  have c2 := check_eq o.no o.nl
  have r0 : hist_Check_lp1 [h.Pos, h.Neg] ((0 : Nat) : Int) = if sideE h.Pos ≠ 0 then some (.out (.out (sideE h.Pos))) else some (.next ((1 : Nat) : Int)) := by
    unfold hist_Check_lp1
    rw [bifTd (by omega), idx_nat (by simp), bind_some]
    dsimp only [List.getElem_cons_zero]
    rw [c1, bind_some]
    by_cases e : sideE h.Pos = 0
    · rw [if_neg (fun h => h e), bifF (by simp [e]), w64_succ (by omega)]
    · rw [if_pos e, bifT (by simp [e])]; rfl
  have r1 : hist_Check_lp1 [h.Pos, h.Neg] ((1 : Nat) : Int) = if sideE h.Neg ≠ 0 then some (.out (.out (sideE h.Neg))) else some (.next ((2 : Nat) : Int)) := by
    unfold hist_Check_lp1
    rw [bifTd (by omega), idx_nat (by simp), bind_some]
    dsimp only [List.getElem_cons_succ, List.getElem_cons_zero]
    rw [c2, bind_some]
    by_cases e : sideE h.Neg = 0
    · rw [if_neg (fun h => h e), bifF (by simp [e]), w64_succ (by omega)]
    · rw [if_pos e, bifT (by simp [e])]; rfl
  have r2 : hist_Check_lp1 [h.Pos, h.Neg] ((2 : Nat) : Int) = some (.brk ()) := by
    unfold hist_Check_lp1
    rw [bifFd (by omega)]
  unfold hist_Check histE
  by_cases h1 : h.Scale < -10 ∨ 20 < h.Scale
  · rw [if_pos h1, bifT (by simpa using h1)]
  rw [if_neg h1, bifF (by simpa using h1), show hist_sides h = some [h.Pos, h.Neg] from rfl, bind_some]
  show flow (flow (loop (hist_Check_lp1 [h.Pos, h.Neg]) ((0 : Nat) : Int)) _) _ = _
  by_cases h2 : sideE h.Pos ≠ 0
  · rw [if_pos h2] at r0
    rw [if_pos h2, loop_out r0]; rfl
  rw [if_neg h2] at r0
  rw [if_neg h2, loop_next r0]
  by_cases h3 : sideE h.Neg ≠ 0
  · rw [if_pos h3] at r1
    rw [if_pos h3, loop_out r1]; rfl
  rw [if_neg h3] at r1
  rw [if_neg h3, loop_next r1, loop_brk r2, flow_go, flow_go, total_eq o.pl o.nl, bind_some]
  by_cases h4 : tot h < 18446744073709551616
  · rw [if_pos h4, if_pos h4]; rfl
  · rw [if_neg h4, if_neg h4]; rfl
theorem RCheck_eq {h : api_Hist} (o : OkH h) : ref08_Check h = some (histE h) := by
  unfold ref08_Check histE
  by_cases h1 : h.Scale < -10 ∨ 20 < h.Scale
  · rw [if_pos h1, bifT (by simpa using h1)]
  rw [if_neg h1, bifF (by simpa using h1), side_eq o.po o.pl, bind_some]
  by_cases h2 : sideE h.Pos ≠ 0
  · rw [if_pos h2, bifT (by simp [h2])]
  rw [if_neg h2, bifF (by simpa using h2), side_eq o.no o.nl, bind_some]
  by_cases h3 : sideE h.Neg ≠ 0
  · rw [if_pos h3, bifT (by simp [h3])]
  rw [if_neg h3, bifF (by simpa using h3), refTotal_eq o.pl o.nl, bind_some]
  by_cases h4 : tot h < 18446744073709551616
  · rw [if_pos h4, if_pos h4]; rfl
  · rw [if_neg h4, if_neg h4]; rfl
end Go.Lg
namespace Go.Lg
attribute [local irreducible] w64 toU64 toU8 shlU shrU shlB shrB
theorem su_nil : su [] = 0 := rfl
theorem su_cons (x : UInt64) (l : List UInt64) : su (x :: l) = x.toNat + su l := by simp [su]
theorem su_take_mono (l : List UInt64) {a b : Nat} (h : a ≤ b) : su (l.take a) ≤ su (l.take b) := by
  have := su_take_le (l.take b) a
  rwa [List.take_take, Nat.min_eq_left h] at this
theorem su_take_succ {l : List UInt64} {i : Nat} (h : i < l.length) : su (l.take (i + 1)) = su (l.take i) + (l[i]).toNat := by rw [take_snoc h, su_snoc]
theorem su_all (l : List UInt64) {k : Nat} (h : l.length ≤ k) : su (l.take k) = su l := by rw [List.take_of_length_le h]
theorem su_get_le {l : List UInt64} {i : Nat} (h : i < l.length) : (l[i]).toNat ≤ su l := by
  have := su_take_succ h
  have := su_take_le l (i + 1)
  omega
theorem su_zeros (n : Nat) : su (List.replicate n 0) = 0 := by
  induction n with
  | zero => rfl
  | succ n ih => rw [List.replicate_succ, su_cons, ih]; rfl
theorem su_set {l : List UInt64} {k : Nat} (h : k < l.length) (e : UInt64) (hb : (l[k]).toNat + e.toNat < 18446744073709551616) (j : Nat) :
    su ((l.set k (l[k] + e)).take j) = su (l.take j) + if k < j then e.toNat else 0 := by
  induction l generalizing k j with
  | nil => simp at h
  | cons x l ih =>
    cases j with
    | zero => simp [su]
    | succ j =>
      cases k with
      | zero =>
        simp only [List.set_cons_zero, List.take_succ_cons, List.getElem_cons_zero] at hb ⊢
        rw [su_cons, su_cons, if_pos (by omega), UInt64.toNat_add, Nat.mod_eq_of_lt hb]; omega
      | succ k =>
        simp only [List.set_cons_succ, List.take_succ_cons, List.getElem_cons_succ] at hb ⊢
        rw [su_cons, su_cons, ih (by simpa using h) hb]
        by_cases hkj : k < j
        · rw [if_pos hkj, if_pos (by omega)]; omega
        · rw [if_neg hkj, if_neg (by omega)]; omega
/-- lists that sum up alike are alike -/
theorem su_ext {l m : List UInt64} (hl : l.length = m.length) (h : ∀ j, su (l.take j) = su (m.take j)) : l = m := by
  apply List.ext_getElem hl
  intro i h1 h2
  apply UInt64.toNat_inj.1
  have a := su_take_succ h1
  have b := su_take_succ h2
  have c := h i
  have d := h (i + 1)
  omega
/-- more coarsely, by P: t is s with each P buckets one -/
structure Dn (P : Int) (s t : api_Side) : Prop where
  o : t.Offset = s.Offset / P
  l : (t.Counts.length : Int) = (s.Offset + s.Counts.length - 1) / P - s.Offset / P + 1
  su : ∀ j : Nat, su (t.Counts.take j) = su (s.Counts.take (P * (t.Offset + j) - s.Offset).toNat)
theorem Dn.inj {P : Int} {s t u : api_Side} (h : Dn P s t) (k : Dn P s u) : t = u := by
  have ho : t.Offset = u.Offset := by rw [h.o, k.o]
  have hl : t.Counts.length = u.Counts.length := by have := h.l; have := k.l; omega
  have hc : t.Counts = u.Counts := su_ext hl fun j => by rw [h.su, k.su, ho]
  cases t; cases u; simp only at ho hc; subst ho; subst hc; rfl
/-- from what holds of the places alone -/
theorem Dn.of {P : Int} {s t : api_Side} (hP : 0 < P) (o : t.Offset = s.Offset / P) (l : (t.Counts.length : Int) = (s.Offset + s.Counts.length - 1) / P - s.Offset / P + 1)
    (h : ∀ j : Nat, j ≤ t.Counts.length → Lg.su (t.Counts.take j) = Lg.su (s.Counts.take (P * (t.Offset + j) - s.Offset).toNat)) : Dn P s t := by
  refine ⟨o, l, fun j => ?_⟩
  by_cases hj : j ≤ t.Counts.length
  · exact h j hj
  · have hend : ∀ j : Nat, t.Counts.length ≤ j → s.Counts.length ≤ (P * (t.Offset + j) - s.Offset).toNat := by
      intro j hj
      have h1 : P * (t.Offset + j) ≥ P * ((s.Offset + s.Counts.length - 1) / P + 1) := Int.mul_le_mul_of_nonneg_left (by omega) (by omega)
      have h2 : s.Offset + s.Counts.length - 1 < P * ((s.Offset + s.Counts.length - 1) / P + 1) := by
        have h3 := Int.mul_ediv_add_emod (s.Offset + s.Counts.length - 1) P
        have h4 := Int.emod_lt_of_pos (s.Offset + s.Counts.length - 1) hP
        rw [Int.mul_add, Int.mul_one]; omega
      omega
    have h1 := h t.Counts.length (Nat.le_refl _)
    rw [su_all _ (hend _ (Nat.le_refl _)), List.take_length] at h1
    rw [su_all _ (hend j (by omega)), su_all _ (by omega), h1]
theorem Dn.comp {P Q : Int} {s t u : api_Side} (hP : 0 < P) (hQ : 0 < Q) (h : Dn P s t) (k : Dn Q t u) : Dn (P * Q) s u := by
  have ho : u.Offset = s.Offset / (P * Q) := by rw [k.o, h.o, Int.ediv_ediv_of_nonneg (by omega)]
  have hend : t.Offset + t.Counts.length - 1 = (s.Offset + s.Counts.length - 1) / P := by have := h.l; have := h.o; omega
  refine ⟨ho, ?_, fun j => ?_⟩
  · rw [k.l, hend, Int.ediv_ediv_of_nonneg (by omega), h.o, Int.ediv_ediv_of_nonneg (by omega)]
  · rw [k.su, h.su]
    have hq : Q * u.Offset ≤ t.Offset := by rw [k.o]; exact Int.mul_ediv_self_le (by omega)
    by_cases hz : Q * (u.Offset + j) ≤ t.Offset
    · have e1 : (Q * (u.Offset + j) - t.Offset).toNat = 0 := by omega
      have hp : P * t.Offset ≤ s.Offset := by rw [h.o]; exact Int.mul_ediv_self_le (by omega)
      have h2 : P * (Q * (u.Offset + j)) ≤ P * t.Offset := Int.mul_le_mul_of_nonneg_left hz (by omega)
      rw [e1, Int.mul_assoc]
      have e2 : (P * (Q * (u.Offset + j)) - s.Offset).toNat = 0 := by omega
      have e3 : (P * (t.Offset + ((0 : Nat) : Int)) - s.Offset).toNat = 0 := by rw [show t.Offset + ((0 : Nat) : Int) = t.Offset by omega]; omega
      rw [e2, e3]
    · have e1 : t.Offset + ((Q * (u.Offset + j) - t.Offset).toNat : Int) = Q * (u.Offset + j) := by omega
      rw [e1, Int.mul_assoc]
theorem Dn.id (s : api_Side) : Dn 1 s s := by
  refine ⟨by simp, by rw [Int.ediv_one, Int.ediv_one]; omega, fun j => ?_⟩
  congr 2; omega
theorem Dn.tot {P : Int} {s t : api_Side} (hP : 0 < P) (h : Dn P s t) (hn : 0 < s.Counts.length) : Lg.su t.Counts = Lg.su s.Counts := by
  have h1 := h.su t.Counts.length
  rw [List.take_length] at h1
  rw [h1, su_all]
  have hl := h.l
  have ho := h.o
  have h2 : s.Offset + s.Counts.length - 1 < P * ((s.Offset + s.Counts.length - 1) / P + 1) := by
    have h3 := Int.mul_ediv_add_emod (s.Offset + s.Counts.length - 1) P
    have h4 := Int.emod_lt_of_pos (s.Offset + s.Counts.length - 1) hP
    rw [Int.mul_add, Int.mul_one]; omega
  have e : t.Offset + (t.Counts.length : Int) = (s.Offset + s.Counts.length - 1) / P + 1 := by omega
  rw [e]; omega
/-! ### the program's way -/
theorem shrI_nat (a : Int) {n : Nat} (h : n ≤ 64) : shrI a n = a / 2 ^ n := by unfold shrI; rw [Nat.min_eq_left h]
theorem p2 (n : Nat) : (0 : Int) < 2 ^ n := Int.pow_pos (by omega)
theorem div_bd {a : Int} {P : Int} (hP : 0 < P) {b : Int} (hb : 0 ≤ b) (h : -b ≤ a ∧ a ≤ b) : -b ≤ a / P ∧ a / P ≤ b := by
  constructor
  · have : -b ≤ a / P ↔ -b * P ≤ a := Int.le_ediv_iff_mul_le hP
    rw [this]
    have : b ≤ b * P := by
      have := Int.mul_le_mul_of_nonneg_left (show (1 : Int) ≤ P by omega) hb
      omega
    rw [Int.neg_mul]; omega
  · have h1 : a / P ≤ b ↔ a / P < b + 1 := by omega
    rw [h1, Int.ediv_lt_iff_lt_mul hP]
    have := Int.mul_le_mul_of_nonneg_left (show (1 : Int) ≤ P by omega) (show 0 ≤ b + 1 by omega)
    omega
theorem span_eq {s : api_Side} {by_ : Nat} (hb : by_ ≤ 64) (ho : -1100000000000 ≤ s.Offset ∧ s.Offset ≤ 1100000000000) (hn : 0 < s.Counts.length) (hl : s.Counts.length ≤ 1000000) {u : UInt64} (hu : u.toNat = by_) :
    hist_span s u = some ((s.Offset + s.Counts.length - 1) / 2 ^ by_ - s.Offset / 2 ^ by_ + 1) := by
  unfold hist_span
  have h1 := div_bd (p2 by_) (b := 1200000000000) (by omega) (a := s.Offset + s.Counts.length - 1) (by omega)
  have h2 := div_bd (p2 by_) (b := 1200000000000) (by omega) (a := s.Offset) (by omega)
  rw [lett_eq, bifFd (by omega), hu, w64_id (x := s.Offset + s.Counts.length) (by omega) (by omega), w64_id (x := s.Offset + s.Counts.length - 1) (by omega) (by omega), shrI_nat _ hb, shrI_nat _ hb]
  rw [lett_eq, w64_id (x := (s.Offset + s.Counts.length - 1) / 2 ^ by_ - s.Offset / 2 ^ by_) (by omega) (by omega), w64_id (by omega) (by omega)]
theorem ediv_mono {a b P : Int} (hP : 0 < P) (h : a ≤ b) : a / P ≤ b / P := Int.ediv_le_ediv hP h
theorem down_eq {s : api_Side} {by_ : Nat} (hb : by_ ≤ 64) (ho : -1100000000000 ≤ s.Offset ∧ s.Offset ≤ 1100000000000) (hn : 0 < s.Counts.length) (hl : s.Counts.length ≤ 1000000) (hs : su s.Counts < 18446744073709551616) {u : UInt64} (hu : u.toNat = by_) :
    ∃ t, hist_down s u = some t ∧ Dn (2 ^ by_) s t := by
  have hP := p2 by_
  have hspan := span_eq hb ho hn hl hu
  unfold hist_down
  rw [bifFd (by omega), hspan, bind_some, hu, shrI_nat _ hb]
  have h1 := div_bd hP (b := 1200000000000) (by omega) (a := s.Offset + s.Counts.length - 1) (by omega)
  have h2 := div_bd hP (b := 1200000000000) (by omega) (a := s.Offset) (by omega)
  have hmono := ediv_mono hP (show s.Offset ≤ s.Offset + s.Counts.length - 1 by omega)
  have hlen2 : (s.Offset + s.Counts.length - 1) / 2 ^ by_ - s.Offset / 2 ^ by_ ≤ s.Counts.length - 1 := by
    have e1 := Int.mul_ediv_add_emod s.Offset (2 ^ by_)
    have e2 := Int.emod_nonneg s.Offset (show (2 : Int) ^ by_ ≠ 0 by omega)
    have h3 : (s.Offset + s.Counts.length - 1) / 2 ^ by_ < s.Offset / 2 ^ by_ + s.Counts.length := by
      rw [Int.ediv_lt_iff_lt_mul hP]
      have h4 : (s.Offset / 2 ^ by_ + s.Counts.length) * 2 ^ by_ = 2 ^ by_ * (s.Offset / 2 ^ by_) + s.Counts.length * 2 ^ by_ := by rw [Int.add_mul, Int.mul_comm (s.Offset / 2 ^ by_)]
      have h5 : (s.Counts.length : Int) * 1 ≤ s.Counts.length * 2 ^ by_ := Int.mul_le_mul_of_nonneg_left (by omega) (by omega)
      have h6 := Int.emod_lt_of_pos s.Offset hP
      rw [h4]
      have h7 : (s.Counts.length : Int) - 1 + s.Offset % 2 ^ by_ < s.Counts.length * 2 ^ by_ := by
        have h8 : ((s.Counts.length : Int) - 1) * 1 ≤ (s.Counts.length - 1) * 2 ^ by_ := Int.mul_le_mul_of_nonneg_left (by omega) (by omega)
        have h9 : ((s.Counts.length : Int) - 1) * 2 ^ by_ = s.Counts.length * 2 ^ by_ - 2 ^ by_ := by rw [Int.sub_mul, Int.one_mul]
        rw [h9, Int.mul_one] at h8; omega
      omega
    omega
  obtain ⟨m, hm⟩ : ∃ m : Nat, (s.Offset + s.Counts.length - 1) / 2 ^ by_ - s.Offset / 2 ^ by_ + 1 = (m : Int) := ⟨((s.Offset + s.Counts.length - 1) / 2 ^ by_ - s.Offset / 2 ^ by_ + 1).toNat, by omega⟩
  have hmk : mk ((s.Offset + s.Counts.length - 1) / 2 ^ by_ - s.Offset / 2 ^ by_ + 1) (0 : UInt64) = some (List.replicate m 0) := by
    unfold mk LIM
    rw [hm, if_pos (by omega)]; simp
  rw [hmk, bind_some, bind_some, bind_some]
  have key : ∀ (k x : Nat) (c : List UInt64), x + k = s.Counts.length → c.length = m → (∀ j : Nat, su (c.take j) = su ((s.Counts.take x).take (2 ^ by_ * (s.Offset / 2 ^ by_ + j) - s.Offset).toNat)) →
      ∃ c', loop (hist_down_lp1 s u) (c, (x : Int)) = some (.go c') ∧ c'.length = m ∧ (∀ j : Nat, su (c'.take j) = su (s.Counts.take (2 ^ by_ * (s.Offset / 2 ^ by_ + j) - s.Offset).toNat)) := by
    intro k
    induction k with
    | zero =>
      intro x c hx hc hinv
      obtain rfl : x = s.Counts.length := by omega
      refine ⟨c, loop_brk ?_, hc, fun j => by rw [hinv j, List.take_length]⟩
      unfold hist_down_lp1
      dsimp only
      rw [bifFd (by omega)]
    | succ k ih =>
      intro x c hx hc hinv
      have hlt : x < s.Counts.length := by omega
      have m1 := ediv_mono hP (show s.Offset ≤ s.Offset + x by omega)
      have m2 := ediv_mono hP (show s.Offset + x ≤ s.Offset + s.Counts.length - 1 by omega)
      obtain ⟨q, hq⟩ : ∃ q : Nat, (s.Offset + x) / 2 ^ by_ - s.Offset / 2 ^ by_ = (q : Int) := ⟨((s.Offset + x) / 2 ^ by_ - s.Offset / 2 ^ by_).toNat, by omega⟩
      have hqm : q < m := by omega
      have hql : q < c.length := by omega
      have hsum : (c[q]).toNat + (s.Counts[x]).toNat < 18446744073709551616 := by
        have a := su_get_le hql
        have b := hinv c.length
        rw [List.take_length] at b
        have d := su_take_le (s.Counts.take x) (2 ^ by_ * (s.Offset / 2 ^ by_ + (c.length : Int)) - s.Offset).toNat
        have e := su_take_succ hlt
        have f := su_take_le s.Counts (x + 1)
        omega
      have hr : hist_down_lp1 s u (c, (x : Int)) = some (.next (c.set q (c[q] + s.Counts[x]), ((x + 1 : Nat) : Int))) := by
        unfold hist_down_lp1
        dsimp only
        rw [bifTd (by omega), idx_nat hlt, bind_some, hu, shrI_nat _ hb, shrI_nat _ hb, w64_id (x := s.Offset + x) (by omega) (by omega), hq, w64_nat (by omega), idx_nat hql, bind_some, bind_some, lett_eq, setI_nat hql, bind_some, w64_succ (by omega)]
      obtain ⟨c', g1, g2, g3⟩ := ih (x + 1) (c.set q (c[q] + s.Counts[x])) (by omega) (by simpa using hc) (fun j => by
        rw [su_set hql _ hsum, hinv j]
        have hiff : q < j ↔ x < (2 ^ by_ * (s.Offset / 2 ^ by_ + j) - s.Offset).toNat := by
          have h3 : (s.Offset + x) / 2 ^ by_ < s.Offset / 2 ^ by_ + j ↔ s.Offset + x < (s.Offset / 2 ^ by_ + j) * 2 ^ by_ := Int.ediv_lt_iff_lt_mul hP
          rw [Int.mul_comm] at h3
          omega
        generalize (2 ^ by_ * (s.Offset / 2 ^ by_ + (j : Int)) - s.Offset).toNat = t at hiff
        by_cases hqj : q < j
        · have ht := hiff.1 hqj
          have e1 : (s.Counts.take x).take t = s.Counts.take x := List.take_of_length_le (by rw [List.length_take]; omega)
          have e2 : (s.Counts.take (x + 1)).take t = s.Counts.take (x + 1) := List.take_of_length_le (by rw [List.length_take]; omega)
          rw [if_pos hqj, e1, e2, su_take_succ hlt]
        · have ht : t ≤ x := by have := mt hiff.2 hqj; omega
          rw [if_neg hqj, List.take_take, List.take_take, Nat.min_eq_left ht, Nat.min_eq_left (by omega)]; omega)
      exact ⟨c', by rw [loop_next hr]; exact g1, g2, g3⟩
  obtain ⟨c', g1, g2, g3⟩ := key s.Counts.length 0 (List.replicate m 0) (by omega) (by simp) (fun j => by
    rw [List.take_zero, List.take_nil, List.take_replicate, su_zeros]; rfl)
  have g1' : loop (hist_down_lp1 s u) (List.replicate m 0, 0) = some (.go c') := g1
  rw [g1', flow_go]
  exact ⟨_, rfl, rfl, by dsimp only; omega, g3⟩
end Go.Lg
namespace Go.Lg
attribute [local irreducible] w64 toU64 toU8 shlU shrU shlB shrB
theorem half_eq {i : Int} (h : -2000000000000 ≤ i ∧ i ≤ 2000000000000) : ref08_half i = some (i / 2) := by
  unfold ref08_half
  by_cases h0 : i < 0
  · obtain ⟨m, hm⟩ : ∃ m : Nat, 1 - i = (m : Int) := ⟨(1 - i).toNat, by omega⟩
    rw [bifTd h0, lett_eq, w64_id (x := 1 - i) (by omega) (by omega), hm, show (2 : Int) = ((2 : Nat) : Int) from rfl, tdivN, w64_nat (by omega), w64_id (by omega) (by omega)]
    congr 1; omega
  · obtain ⟨m, rfl⟩ : ∃ m : Nat, i = (m : Int) := ⟨i.toNat, by omega⟩
    rw [bifFd h0, lett_eq, show (2 : Int) = ((2 : Nat) : Int) from rfl, tdivN, w64_nat (by omega)]
    congr 1
theorem su_app1 (l : List UInt64) (x : UInt64) (j : Nat) : su ((l ++ [x]).take j) = su (l.take j) + if l.length < j then x.toNat else 0 := by
  by_cases h : l.length < j
  · rw [if_pos h, List.take_of_length_le (by simp; omega), List.take_of_length_le (by omega), su_snoc]
  · rw [if_neg h, List.take_append_of_le_length (by omega)]; rfl
theorem set_last {l : List UInt64} {q : Nat} (h : q + 1 = l.length) (x : UInt64) : l.take q ++ [x] = l.set q x := by
  apply List.ext_getElem?
  intro i
  rw [List.getElem?_set, List.getElem?_append, List.length_take]
  by_cases h1 : i < q
  · rw [if_pos (by omega), if_neg (by omega), List.getElem?_take, if_pos h1]
  · rw [if_neg (by omega)]
    by_cases h2 : q = i
    · subst h2; rw [if_pos rfl, if_pos (by omega)]; simp [show min q l.length = q by omega]
    · rw [if_neg h2, List.getElem?_eq_none (by simp; omega), List.getElem?_eq_none (by omega)]
theorem once_eq {s : api_Side} (ho : -1100000000000 ≤ s.Offset ∧ s.Offset ≤ 1100000000000) (hn : 0 < s.Counts.length) (hl : s.Counts.length ≤ 1000000) (hs : su s.Counts < 18446744073709551616) :
    ∃ t, ref08_once s = some t ∧ Dn 2 s t := by
  have key : ∀ (k i : Nat) (c : List UInt64), i + k = s.Counts.length → 1 ≤ i → (c.length : Int) = (s.Offset + i - 1) / 2 - s.Offset / 2 + 1 → (∀ j : Nat, su (c.take j) = su ((s.Counts.take i).take (2 * (s.Offset / 2 + j) - s.Offset).toNat)) →
      ∃ c', loop (ref08_once_lp1 s) (s.Offset / 2, c, (i : Int)) = some (.go (s.Offset / 2, c')) ∧ (c'.length : Int) = (s.Offset + s.Counts.length - 1) / 2 - s.Offset / 2 + 1 ∧ (∀ j : Nat, su (c'.take j) = su (s.Counts.take (2 * (s.Offset / 2 + j) - s.Offset).toNat)) := by
    intro k
    induction k with
    | zero =>
      intro i c hi _ hc hinv
      obtain rfl : i = s.Counts.length := by omega
      refine ⟨c, loop_brk ?_, hc, fun j => by rw [hinv j, List.take_length]⟩
      unfold ref08_once_lp1
      dsimp only
      rw [bifFd (by omega)]
    | succ k ih =>
      intro i c hi h1 hc hinv
      have hlt : i < s.Counts.length := by omega
      have hcl : 0 < c.length := by omega
      have hclb : c.length ≤ 1000000 := by omega
      have hiff : ∀ (q j : Nat), (s.Offset + i) / 2 - s.Offset / 2 = (q : Int) → (q < j ↔ i < (2 * (s.Offset / 2 + j) - s.Offset).toNat) := by
        intro q j hq; omega
      have hstep : ∀ c2 : List UInt64, (∃ q : Nat, (s.Offset + i) / 2 - s.Offset / 2 = (q : Int) ∧ ∀ j : Nat, su (c2.take j) = su (c.take j) + if q < j then (s.Counts[i]).toNat else 0) →
          ∀ j : Nat, su (c2.take j) = su ((s.Counts.take (i + 1)).take (2 * (s.Offset / 2 + j) - s.Offset).toNat) := by
        rintro c2 ⟨q, hq, hc2⟩ j
        rw [hc2, hinv j]
        have hi2 := hiff q j hq
        generalize (2 * (s.Offset / 2 + (j : Int)) - s.Offset).toNat = t at hi2
        by_cases hqj : q < j
        · have ht := hi2.1 hqj
          have e1 : (s.Counts.take i).take t = s.Counts.take i := List.take_of_length_le (by rw [List.length_take]; omega)
          have e2 : (s.Counts.take (i + 1)).take t = s.Counts.take (i + 1) := List.take_of_length_le (by rw [List.length_take]; omega)
          rw [if_pos hqj, e1, e2, su_take_succ hlt]
        · have ht : t ≤ i := by have := mt hi2.2 hqj; omega
          rw [if_neg hqj, List.take_take, List.take_take, Nat.min_eq_left ht, Nat.min_eq_left (by omega)]; omega
      have B1 : i + 1 < 9223372036854775808 := by omega
      have E1 : w64 (s.Offset + (i : Int)) = s.Offset + i := w64_id (by omega) (by omega)
      have E2 : w64 ((w64 (s.Offset / 2 + (c.length : Int))) - 1) = s.Offset / 2 + c.length - 1 := by rw [w64_id (x := s.Offset / 2 + (c.length : Int)) (by omega) (by omega), w64_id (by omega) (by omega)]
      by_cases hsame : (s.Offset + i) / 2 = s.Offset / 2 + c.length - 1
      · obtain ⟨q, hq⟩ : ∃ q : Nat, q + 1 = c.length := ⟨c.length - 1, by omega⟩
        have hql : q < c.length := by omega
        have hsum : (c[q]).toNat + (s.Counts[i]).toNat < 18446744073709551616 := by
          have a := su_get_le hql
          have b := hinv c.length
          rw [List.take_length] at b
          have d := su_take_le (s.Counts.take i) (2 * (s.Offset / 2 + (c.length : Int)) - s.Offset).toNat
          have e := su_take_succ hlt
          have f := su_take_le s.Counts (i + 1)
          clear hinv hstep hiff E1 E2
          omega
        have hr : ref08_once_lp1 s (s.Offset / 2, c, (i : Int)) = some (.next (s.Offset / 2, c.set q (c[q] + s.Counts[i]), ((i + 1 : Nat) : Int))) := by
          have E3 : w64 ((c.length : Int) - 1) = (q : Int) := by rw [w64_id (by omega) (by omega)]; omega
          unfold ref08_once_lp1
          dsimp only
          rw [bifTd (by omega), E1, half_eq (by omega), bind_some, bifFd (by omega), E2, bifTd hsame, lett_eq, E3, idx_nat hql, bind_some, idx_nat hlt, bind_some, lett_eq, show (0 : Int) = ((0 : Nat) : Int) from rfl, slc_nat (by omega) (by omega), bind_some, List.drop_zero,
            app_ok (by simp; omega), bind_some, List.nil_append, app_ok (by simp; omega), bind_some, bind_some]
          dsimp only
          rw [lett_eq, w64_succ B1, set_last hq]
        obtain ⟨c', g1, g2, g3⟩ := ih (i + 1) _ (by omega) (by omega) (by rw [List.length_set]; omega) (hstep _ ⟨q, by omega, fun j => su_set hql _ hsum j⟩)
        exact ⟨c', by rw [loop_next hr, g1], g2, g3⟩
      · have hr : ref08_once_lp1 s (s.Offset / 2, c, (i : Int)) = some (.next (s.Offset / 2, c ++ [s.Counts[i]], ((i + 1 : Nat) : Int))) := by
          unfold ref08_once_lp1
          dsimp only
          rw [bifTd (by omega), E1, half_eq (by omega), bind_some, bifFd (by omega), E2, bifFd hsame, idx_nat hlt, bind_some, app_ok (by simp; omega), bind_some, bind_some]
          dsimp only
          rw [lett_eq, w64_succ B1]
        obtain ⟨c', g1, g2, g3⟩ := ih (i + 1) _ (by omega) (by omega) (by rw [List.length_append, List.length_singleton]; omega) (hstep _ ⟨c.length, by omega, fun j => su_app1 _ _ j⟩)
        exact ⟨c', by rw [loop_next hr, g1], g2, g3⟩
  have hr0 : ref08_once_lp1 s (0, [], ((0 : Nat) : Int)) = some (.next (s.Offset / 2, [s.Counts[0]], ((1 : Nat) : Int))) := by
    unfold ref08_once_lp1
    dsimp only
    rw [bifTd (by omega), show s.Offset + ((0 : Nat) : Int) = s.Offset by omega, w64_id (by omega) (by omega), half_eq (by omega), bind_some, bifTd (by simp), idx_nat hn, bind_some, bind_some]
    dsimp only
    rw [lett_eq, w64_succ (by omega)]
  obtain ⟨c', g1, g2, g3⟩ := key (s.Counts.length - 1) 1 [s.Counts[0]] (by omega) (by omega) (by simp only [List.length_singleton]; omega) (fun j => by
    have e1 : s.Counts.take 1 = [s.Counts[0]] := by rw [show (1 : Nat) = 0 + 1 from rfl, take_snoc hn]; rfl
    rw [e1]
    by_cases hj : j = 0
    · subst hj
      have : (2 * (s.Offset / 2 + ((0 : Nat) : Int)) - s.Offset).toNat = 0 := by omega
      rw [this]
    · rw [List.take_of_length_le (by simp; omega), List.take_of_length_le (by simp; omega)])
  refine ⟨⟨s.Offset / 2, c'⟩, ?_, rfl, g2, g3⟩
  unfold ref08_once
  have hr0' : ref08_once_lp1 s (0, [], 0) = _ := hr0
  rw [loop_next hr0', g1, flow_go]
/-! ### ends that are nought -/
def zl : List UInt64 → Nat
  | [] => 0
  | x :: l => if x = 0 then 1 + zl l else 0
theorem zl_le : ∀ l : List UInt64, zl l ≤ l.length
  | [] => by simp [zl]
  | x :: l => by have := zl_le l; rw [zl]; split <;> simp <;> omega
theorem zl_at (l : List UInt64) (h : zl l < l.length) : l[zl l] ≠ 0 := by
  induction l with
  | nil => simp at h
  | cons x l ih =>
    simp only [zl] at h ⊢
    by_cases hx : x = 0
    · simp only [if_pos hx] at h ⊢
      have := ih (by simp at h; omega)
      simpa [Nat.add_comm 1] using this
    · simp only [if_neg hx]; simpa using hx
/-- how many stay when noughts behind place a are struck, from place n down -/
def kl (l : List UInt64) (a : Nat) : Nat → Nat
  | 0 => 0
  | n + 1 => if a < n + 1 ∧ l.getD n 0 = 0 then kl l a n else n + 1
theorem kl_le (l : List UInt64) (a : Nat) : ∀ n, kl l a n ≤ n
  | 0 => Nat.le_refl _
  | n + 1 => by rw [kl]; have := kl_le l a n; split <;> omega
theorem kl_gt {l : List UInt64} {a : Nat} (ha : l.getD a 0 ≠ 0) : ∀ n, a < n → a < kl l a n
  | 0, h => by omega
  | n + 1, h => by
    rw [kl]
    by_cases hn : n = a
    · subst hn; rw [if_neg (fun h => ha h.2)]; omega
    · split
      · exact kl_gt ha n (by omega)
      · omega
def trimS (s : api_Side) : api_Side :=
  if zl s.Counts = s.Counts.length then ⟨0, []⟩ else ⟨s.Offset + zl s.Counts, (s.Counts.take (kl s.Counts (zl s.Counts) s.Counts.length)).drop (zl s.Counts)⟩
theorem trim_front {s : api_Side} (hl : s.Counts.length ≤ 1000000) : ∀ (m i : Nat), i + m = s.Counts.length → loop (hist_Trim_lp1 s (s.Counts.length : Int)) (i : Int) = some (.go ((i + zl (s.Counts.drop i) : Nat) : Int)) := by
  intro m
  induction m with
  | zero =>
    intro i hi
    obtain rfl : i = s.Counts.length := by omega
    refine loop_brk ?_
    unfold hist_Trim_lp1
    rw [bifFd (by omega), bind_some, cond_false, List.drop_length]; rfl
  | succ m ih =>
    intro i hi
    have hlt : i < s.Counts.length := by omega
    rw [List.drop_eq_getElem_cons hlt, zl]
    by_cases h0 : s.Counts[i] = 0
    · rw [if_pos h0, loop_next (s' := ((i + 1 : Nat) : Int)), ih (i + 1) (by omega)]
      · congr 3; omega
      · unfold hist_Trim_lp1
        rw [bifTd (by omega), idx_nat hlt, bind_some, bind_some, bifTd h0, lett_eq, w64_succ (by omega)]
    · rw [if_neg h0]
      refine loop_brk ?_
      unfold hist_Trim_lp1
      rw [bifTd (by omega), idx_nat hlt, bind_some, bind_some, bifFd h0]; rfl
theorem trim_back {s : api_Side} (hl : s.Counts.length ≤ 1000000) (a : Nat) : ∀ n, n ≤ s.Counts.length → loop (hist_Trim_lp2 s (a : Int)) (n : Int) = some (.go ((kl s.Counts a n : Nat) : Int)) := by
  intro n
  induction n with
  | zero =>
    intro _
    refine loop_brk ?_
    unfold hist_Trim_lp2
    rw [bifFd (by omega), bind_some, cond_false]; rfl
  | succ n ih =>
    intro hn
    have e1 : w64 (((n + 1 : Nat) : Int) - 1) = (n : Int) := by rw [w64_id (by omega) (by omega)]; omega
    rw [kl]
    by_cases h : a < n + 1
    · by_cases h0 : s.Counts.getD n 0 = 0
      · rw [if_pos ⟨h, h0⟩, loop_next (s' := (n : Int)), ih (by omega)]
        unfold hist_Trim_lp2
        rw [getD_lt (by omega)] at h0
        rw [bifTd (by omega), e1, idx_nat (by omega), bind_some, bind_some, bifTd h0, lett_eq]
      · rw [if_neg (fun h => h0 h.2)]
        refine loop_brk ?_
        unfold hist_Trim_lp2
        rw [getD_lt (by omega)] at h0
        rw [bifTd (by omega), e1, idx_nat (by omega), bind_some, bind_some, bifFd h0]
    · rw [if_neg (fun h' => h h'.1)]
      refine loop_brk ?_
      unfold hist_Trim_lp2
      rw [bifFd (by omega), bind_some, cond_false]
theorem Trim_eq {s : api_Side} (ho : -1100000000000 ≤ s.Offset ∧ s.Offset ≤ 1100000000000) (hl : s.Counts.length ≤ 1000000) : hist_Trim s = some (trimS s) := by
  have hz := zl_le s.Counts
  have f1 := trim_front hl s.Counts.length 0 (by omega)
  rw [List.drop_zero, Nat.zero_add] at f1
  have f1' : loop (hist_Trim_lp1 s (s.Counts.length : Int)) 0 = _ := f1
  have f2 := trim_back hl (zl s.Counts) s.Counts.length (Nat.le_refl _)
  have hk := kl_le s.Counts (zl s.Counts) s.Counts.length
  unfold hist_Trim trimS
  rw [lett_eq, f1', flow_go, bind_some, f2, flow_go, bind_some]
  by_cases h : zl s.Counts = s.Counts.length
  · have hkz : kl s.Counts (zl s.Counts) s.Counts.length = zl s.Counts := by
      cases hn : s.Counts.length with
      | zero => rw [h, hn]; rfl
      | succ n => rw [kl, if_neg (by omega)]; omega
    rw [if_pos h, bifTd (by omega)]
  · have h0 := zl_at s.Counts (by omega)
    have hgt := kl_gt (l := s.Counts) (a := zl s.Counts) (by rw [getD_lt (by omega)]; exact h0) s.Counts.length (by omega)
    rw [if_neg h, bifFd (by omega), slc_nat (by omega) hk, bind_some]
    unfold slices_Clone_uint64_uint64
    rw [app_ok (by simp; omega), bind_some, List.nil_append, w64_id (by omega) (by omega)]
theorem rtrim_front : ∀ (l : List UInt64) (a : Int), -1200000000000 ≤ a ∧ a + l.length ≤ 1200000000000 → l.length ≤ 1000000 → loop ref08_Trim_lp1 (l, a) = some (.go (l.drop (zl l), a + zl l)) := by
  intro l
  induction l with
  | nil =>
    intro a _ _
    refine loop_brk ?_
    unfold ref08_Trim_lp1
    dsimp only
    rw [bifFd (by simp), bind_some, cond_false]
    simp [zl]
  | cons x l ih =>
    intro a ha hl
    simp only [List.length_cons] at ha hl
    rw [zl]
    by_cases h0 : x = 0
    · rw [if_pos h0, loop_next (s' := (l, a + 1)), ih (a + 1) (by omega) (by omega)]
      · rw [Nat.add_comm 1, List.drop_succ_cons]
        congr 3; omega
      · unfold ref08_Trim_lp1
        dsimp only
        rw [bifTd (by simp only [List.length_cons]; omega), idx_0 (by simp), bind_some, bind_some, bifTd (by simpa using h0), show (1 : Int) = ((1 : Nat) : Int) from rfl, slc_nat (by simp) (Nat.le_refl _), bind_some, lett_eq, List.take_length, w64_id (by omega) (by omega)]
        rfl
    · rw [if_neg h0]
      refine loop_brk ?_
      unfold ref08_Trim_lp1
      dsimp only
      rw [bifTd (by simp only [List.length_cons]; omega), idx_0 (by simp), bind_some, bind_some, bifFd (by simpa using h0)]
      simp
theorem rtrim_back (l : List UInt64) (hl : l.length ≤ 1000000) : ∀ n, n ≤ l.length → loop ref08_Trim_lp2 (l.take n) = some (.go (l.take (kl l 0 n))) := by
  intro n
  induction n with
  | zero =>
    intro _
    refine loop_brk ?_
    unfold ref08_Trim_lp2
    rw [List.take_zero, bifFd (by simp), bind_some, cond_false]; rfl
  | succ n ih =>
    intro hn
    have hlen : (l.take (n + 1)).length = n + 1 := by rw [List.length_take]; omega
    have e1 : w64 (((l.take (n + 1)).length : Int) - 1) = (n : Int) := by rw [hlen, w64_id (by omega) (by omega)]; omega
    have hg : (l.take (n + 1))[n]'(by omega) = l[n]'(by omega) := by simp
    rw [kl]
    by_cases h0 : l.getD n 0 = 0
    · rw [if_pos ⟨by omega, h0⟩, loop_next (s' := l.take n), ih (by omega)]
      unfold ref08_Trim_lp2
      rw [getD_lt (by omega)] at h0
      rw [bifTd (by omega), e1, idx_nat (by omega), hg, bind_some, bind_some, bifTd h0, show (0 : Int) = ((0 : Nat) : Int) from rfl, slc_nat (by omega) (by omega), bind_some, List.drop_zero, List.take_take, Nat.min_eq_left (by omega)]
    · rw [if_neg (fun h => h0 h.2)]
      refine loop_brk ?_
      unfold ref08_Trim_lp2
      rw [getD_lt (by omega)] at h0
      rw [bifTd (by omega), e1, idx_nat (by omega), hg, bind_some, bind_some, bifFd h0]
theorem kl_drop (l : List UInt64) (a : Nat) : ∀ n, a + n ≤ l.length → kl l a (a + n) = a + kl (l.drop a) 0 n
  | 0, h => by
    cases a with
    | zero => rfl
    | succ a =>
      show kl l (a + 1) (a + 1) = a + 1
      rw [kl, if_neg (by omega)]
  | n + 1, h => by
    rw [← Nat.add_assoc, kl, kl]
    have hd : l.getD (a + n) 0 = (l.drop a).getD n 0 := by rw [getD_lt (by omega), getD_lt (by simp; omega)]; simp
    rw [hd, kl_drop l a n (by omega)]
    by_cases h0 : (l.drop a).getD n 0 = 0
    · rw [if_pos ⟨by omega, h0⟩, if_pos ⟨by omega, h0⟩]
    · rw [if_neg (fun h => h0 h.2), if_neg (fun h => h0 h.2)]; omega
theorem RTrim_eq {s : api_Side} (ho : -1100000000000 ≤ s.Offset ∧ s.Offset ≤ 1100000000000) (hl : s.Counts.length ≤ 1000000) : ref08_Trim s = some (trimS s) := by
  have hz := zl_le s.Counts
  have f1 := rtrim_front s.Counts s.Offset (by omega) hl
  have hdl : (s.Counts.drop (zl s.Counts)).length = s.Counts.length - zl s.Counts := List.length_drop
  have f2 := rtrim_back (s.Counts.drop (zl s.Counts)) (by omega) (s.Counts.drop (zl s.Counts)).length (Nat.le_refl _)
  rw [List.take_length, hdl] at f2
  have hk := kl_drop s.Counts (zl s.Counts) (s.Counts.length - zl s.Counts) (by omega)
  rw [show zl s.Counts + (s.Counts.length - zl s.Counts) = s.Counts.length by omega] at hk
  have hkl := kl_le (s.Counts.drop (zl s.Counts)) 0 (s.Counts.length - zl s.Counts)
  unfold ref08_Trim trimS
  rw [f1, flow_go, bind_some]
  dsimp only
  rw [f2, flow_go, bind_some]
  have htl : ((s.Counts.drop (zl s.Counts)).take (kl (s.Counts.drop (zl s.Counts)) 0 (s.Counts.length - zl s.Counts))).length = kl (s.Counts.drop (zl s.Counts)) 0 (s.Counts.length - zl s.Counts) := by rw [List.length_take]; omega
  by_cases h : zl s.Counts = s.Counts.length
  · rw [if_pos h, bifTd (by rw [htl]; omega)]
  · have h0 := zl_at s.Counts (by omega)
    have hgt := kl_gt (l := s.Counts) (a := zl s.Counts) (by rw [getD_lt (by omega)]; exact h0) s.Counts.length (by omega)
    rw [if_neg h, bifFd (by rw [htl]; omega), app_ok (by rw [htl]; simp; omega), bind_some, List.nil_append, hk, List.drop_take]
    congr 3; omega
theorem trim_right {s : api_Side} (h : sideE s = 0) : trimS s = s := by
  unfold sideE at h
  by_cases h1 : 160 < s.Counts.length
  · rw [if_pos h1] at h; exact absurd h (by decide)
  rw [if_neg h1] at h
  by_cases h2 : s.Counts.length = 0
  · rw [if_pos h2] at h
    by_cases h3 : s.Offset = 0
    · have hc : s.Counts = [] := List.eq_nil_of_length_eq_zero h2
      unfold trimS
      rw [hc]
      obtain ⟨o, c⟩ := s
      simp only at h3 hc; subst h3; subst hc; rfl
    · rw [if_neg h3] at h; exact absurd h (by decide)
  rw [if_neg h2] at h
  by_cases h3 : s.Counts.getD 0 0 = 0 ∨ s.Counts.getD (s.Counts.length - 1) 0 = 0
  · rw [if_pos h3] at h; exact absurd h (by decide)
  have hz : zl s.Counts = 0 := by
    match hc : s.Counts with
    | [] => rfl
    | x :: l => rw [hc] at h3; rw [zl, if_neg (by simpa using fun e => h3 (.inl e))]
  have hk : kl s.Counts 0 s.Counts.length = s.Counts.length := by
    match hn : s.Counts.length with
    | 0 => rfl
    | n + 1 => rw [kl, if_neg (fun h' => h3 (.inr (by rw [hn]; exact h'.2)))]
  unfold trimS
  rw [if_neg (by omega), hz, hk, List.take_length]
  obtain ⟨o, c⟩ := s
  simp
end Go.Lg
namespace Go.Lg
attribute [local irreducible] w64 toU64 toU8 shlU shrU shlB shrB
/-! ### right sides -/
structure RightS (s : api_Side) : Prop where
  len : s.Counts.length ≤ 160
  z : s.Counts.length = 0 → s.Offset = 0
  f : ∀ (h : 0 < s.Counts.length), s.Counts[0] ≠ 0
  e : ∀ (h : 0 < s.Counts.length), s.Counts[s.Counts.length - 1] ≠ 0
  lo : 0 < s.Counts.length → -1073741824 ≤ s.Offset
  hi : 0 < s.Counts.length → s.Offset + s.Counts.length - 1 ≤ 1073741824
theorem right_iff (s : api_Side) : sideE s = 0 ↔ RightS s := by
  unfold sideE
  by_cases h1 : 160 < s.Counts.length
  · rw [if_pos h1]; exact ⟨fun h => absurd h (by decide), fun h => by have := h.len; omega⟩
  rw [if_neg h1]
  by_cases h2 : s.Counts.length = 0
  · rw [if_pos h2]
    by_cases h3 : s.Offset = 0
    · rw [if_pos h3]; exact ⟨fun _ => ⟨by omega, fun _ => h3, fun h => by omega, fun h => by omega, fun h => by omega, fun h => by omega⟩, fun _ => rfl⟩
    · rw [if_neg h3]; exact ⟨fun h => absurd h (by decide), fun h => absurd (h.z h2) h3⟩
  rw [if_neg h2]
  by_cases h3 : s.Counts.getD 0 0 = 0 ∨ s.Counts.getD (s.Counts.length - 1) 0 = 0
  · rw [if_pos h3]
    rw [getD_lt (by omega), getD_lt (by omega)] at h3
    exact ⟨fun h => absurd h (by decide), fun h => h3.elim (fun e => absurd e (h.f (by omega))) (fun e => absurd e (h.e (by omega)))⟩
  rw [if_neg h3]
  rw [getD_lt (by omega), getD_lt (by omega)] at h3
  by_cases h5 : s.Offset < -1073741824 ∨ 1073741824 - ((s.Counts.length : Int) - 1) < s.Offset
  · rw [if_pos h5]
    exact ⟨fun h => absurd h (by decide), fun h => by have := h.lo (by omega); have := h.hi (by omega); omega⟩
  · rw [if_neg h5]
    exact ⟨fun _ => ⟨by omega, fun h => absurd h h2, fun _ => fun e => h3 (.inl e), fun _ => fun e => h3 (.inr e), fun _ => by omega, fun _ => by omega⟩, fun _ => rfl⟩
theorem RightS.off {s : api_Side} (h : RightS s) : -1100000000000 ≤ s.Offset ∧ s.Offset ≤ 1100000000000 := by
  by_cases h0 : s.Counts.length = 0
  · have := h.z h0; omega
  · have := h.lo (by omega); have := h.hi (by omega); omega
structure Good (h : api_Hist) : Prop where
  s1 : -10 ≤ h.Scale
  s2 : h.Scale ≤ 20
  p : RightS h.Pos
  n : RightS h.Neg
  t : tot h < 18446744073709551616
theorem good_iff (h : api_Hist) : histE h = 0 ↔ Good h := by
  unfold histE
  by_cases h1 : h.Scale < -10 ∨ 20 < h.Scale
  · rw [if_pos h1]; exact ⟨fun h => absurd h (by decide), fun g => by have := g.s1; have := g.s2; omega⟩
  rw [if_neg h1]
  by_cases h2 : sideE h.Pos ≠ 0
  · rw [if_pos h2]; exact ⟨fun h => absurd h h2, fun g => absurd ((right_iff _).2 g.p) h2⟩
  rw [if_neg h2]
  by_cases h3 : sideE h.Neg ≠ 0
  · rw [if_pos h3]; exact ⟨fun h => absurd h h3, fun g => absurd ((right_iff _).2 g.n) h3⟩
  rw [if_neg h3]
  by_cases h4 : tot h < 18446744073709551616
  · rw [if_pos h4]
    exact ⟨fun _ => ⟨by omega, by omega, (right_iff _).1 (Decidable.not_not.1 h2), (right_iff _).1 (Decidable.not_not.1 h3), h4⟩, fun _ => rfl⟩
  · rw [if_neg h4]; exact ⟨fun h => absurd h (by decide), fun g => absurd g.t h4⟩
theorem Good.ok {h : api_Hist} (g : Good h) : OkH h := by
  have := g.p.off; have := g.n.off; have := g.p.len; have := g.n.len; have := g.s1; have := g.s2
  exact ⟨by unfold I64; omega, by unfold I64; omega, by unfold I64; omega, by omega, by omega⟩
theorem Good.sp {h : api_Hist} (g : Good h) : su h.Pos.Counts < 18446744073709551616 := by have := g.t; unfold tot at this; omega
theorem Good.sn {h : api_Hist} (g : Good h) : su h.Neg.Counts < 18446744073709551616 := by have := g.t; unfold tot at this; omega
/-- a side's image, by 2^k -/
def DnS (k : Nat) (s t : api_Side) : Prop := (s.Counts.length = 0 ∧ t = ⟨0, []⟩) ∨ (0 < s.Counts.length ∧ Dn (2 ^ k) s t)
theorem DnS.inj {k : Nat} {s t u : api_Side} (h : DnS k s t) (h' : DnS k s u) : t = u := by
  rcases h with ⟨a, b⟩ | ⟨a, b⟩ <;> rcases h' with ⟨c, d⟩ | ⟨c, d⟩
  · rw [b, d]
  · omega
  · omega
  · exact b.inj d
theorem Dn.pos {P : Int} {s t : api_Side} (hP : 0 < P) (h : Dn P s t) (hn : 0 < s.Counts.length) : 0 < t.Counts.length := by
  have := h.l
  have := ediv_mono hP (show s.Offset ≤ s.Offset + s.Counts.length - 1 by omega)
  omega
theorem Dn.le {P : Int} {s t : api_Side} (hP : 0 < P) (h : Dn P s t) (hn : 0 < s.Counts.length) : t.Counts.length ≤ s.Counts.length := by
  have h1 := h.l
  have h3 : (s.Offset + s.Counts.length - 1) / P < s.Offset / P + s.Counts.length := by
    rw [Int.ediv_lt_iff_lt_mul hP]
    have e1 := Int.mul_ediv_add_emod s.Offset P
    have h4 : (s.Offset / P + s.Counts.length) * P = P * (s.Offset / P) + s.Counts.length * P := by rw [Int.add_mul, Int.mul_comm (s.Offset / P)]
    have h6 := Int.emod_lt_of_pos s.Offset hP
    have h8 : ((s.Counts.length : Int) - 1) * 1 ≤ (s.Counts.length - 1) * P := Int.mul_le_mul_of_nonneg_left (by omega) (by omega)
    have h9 : ((s.Counts.length : Int) - 1) * P = s.Counts.length * P - P := by rw [Int.sub_mul, Int.one_mul]
    rw [h9, Int.mul_one] at h8
    rw [h4]; omega
  omega
theorem DnS.right {k : Nat} {s t : api_Side} (hs : RightS s) (h : DnS k s t) (hb : su s.Counts < 18446744073709551616) : RightS t := by
  rcases h with ⟨a, rfl⟩ | ⟨hn, h⟩
  · exact ⟨by simp, fun _ => rfl, fun h => by simp at h, fun h => by simp at h, fun h => by simp at h, fun h => by simp at h⟩
  have hP := p2 k
  have hle := h.le hP hn
  have hpos := h.pos hP hn
  have ho := h.o
  have hl := h.l
  have hlo := hs.lo hn
  have hhi := hs.hi hn
  have d1 := div_bd hP (b := 1073741824) (by omega) (a := s.Offset) (by omega)
  have d2 := div_bd hP (b := 1073741824) (by omega) (a := s.Offset + s.Counts.length - 1) (by omega)
  refine ⟨by have := hs.len; omega, fun h => by omega, fun _ => ?_, fun _ => ?_, fun _ => by omega, fun _ => by omega⟩
  · intro e
    have h1 := h.su 1
    have h2 := su_take_succ hpos
    rw [e] at h2
    have h3 := su_take_succ hn
    have h4 := hs.f hn
    have h5 : (s.Counts[0]).toNat ≠ 0 := fun e => h4 (UInt64.toNat_inj.1 (by rw [e]; rfl))
    have h6 : 1 ≤ (2 ^ k * (t.Offset + ((1 : Nat) : Int)) - s.Offset).toNat := by
      have e1 := Int.mul_ediv_add_emod s.Offset (2 ^ k)
      have e2 := Int.emod_lt_of_pos s.Offset hP
      rw [ho, Int.mul_add]; omega
    have h7 := su_take_mono s.Counts h6
    have hz : (0 : UInt64).toNat = 0 := rfl
    simp only [Nat.zero_add, List.take_zero, su_nil] at h1 h2 h3
    omega
  · intro e
    obtain ⟨m, hm⟩ : ∃ m, t.Counts.length = m + 1 := ⟨t.Counts.length - 1, by omega⟩
    have h2 := su_take_succ (l := t.Counts) (i := t.Counts.length - 1) (by omega)
    rw [e, show t.Counts.length - 1 + 1 = t.Counts.length by omega, List.take_length] at h2
    have h1 := h.su (t.Counts.length - 1)
    have h3 := h.tot hP hn
    have h4 := su_take_succ (l := s.Counts) (i := s.Counts.length - 1) (by omega)
    rw [show s.Counts.length - 1 + 1 = s.Counts.length by omega, List.take_length] at h4
    have h5 := hs.e hn
    have h6 : (s.Counts[s.Counts.length - 1]).toNat ≠ 0 := fun e => h5 (UInt64.toNat_inj.1 (by rw [e]; rfl))
    have h7 : (2 ^ k * (t.Offset + ((t.Counts.length - 1 : Nat) : Int)) - s.Offset).toNat ≤ s.Counts.length - 1 := by
      have e1 : t.Offset + ((t.Counts.length - 1 : Nat) : Int) = (s.Offset + s.Counts.length - 1) / 2 ^ k := by omega
      have e2 : 2 ^ k * ((s.Offset + s.Counts.length - 1) / 2 ^ k) ≤ s.Offset + s.Counts.length - 1 := Int.mul_ediv_self_le (by omega)
      rw [e1]; omega
    have h8 := su_take_mono s.Counts h7
    have : (0 : UInt64).toNat = 0 := rfl
    omega
theorem DnS.comp {a b : Nat} {s t u : api_Side} (h : DnS a s t) (k : DnS b t u) : DnS (a + b) s u := by
  rcases h with ⟨x, rfl⟩ | ⟨x, y⟩
  · rcases k with ⟨_, z⟩ | ⟨z, _⟩
    · exact .inl ⟨x, z⟩
    · simp at z
  · have := y.pos (p2 a) x
    rcases k with ⟨z, _⟩ | ⟨_, z⟩
    · omega
    · exact .inr ⟨x, by rw [Int.pow_add]; exact y.comp (p2 a) (p2 b) z⟩
theorem DnS.zero {s : api_Side} (h : RightS s) : DnS 0 s s := by
  by_cases h0 : s.Counts.length = 0
  · refine .inl ⟨h0, ?_⟩
    have := h.z h0
    obtain ⟨o, c⟩ := s
    simp only at this h0
    rw [this, List.eq_nil_of_length_eq_zero h0]
  · exact .inr ⟨by omega, by simpa using Dn.id s⟩
theorem DnS.tot {k : Nat} {s t : api_Side} (h : DnS k s t) : su t.Counts = su s.Counts := by
  rcases h with ⟨a, rfl⟩ | ⟨hn, h⟩
  · rw [List.eq_nil_of_length_eq_zero a]
  · exact h.tot (p2 k) hn
theorem down_side {s : api_Side} (h : RightS s) (hb : su s.Counts < 18446744073709551616) {k : Nat} (hk : k ≤ 64) {u : UInt64} (hu : u.toNat = k) : ∃ t, hist_down s u = some t ∧ DnS k s t := by
  by_cases h0 : s.Counts.length = 0
  · refine ⟨⟨0, []⟩, ?_, .inl ⟨h0, rfl⟩⟩
    unfold hist_down
    rw [bifTd (by omega)]
  · obtain ⟨t, h1, h2⟩ := down_eq hk h.off (by omega) (by have := h.len; omega) hb hu
    exact ⟨t, h1, .inr ⟨by omega, h2⟩⟩
theorem once_side {s : api_Side} (h : RightS s) (hb : su s.Counts < 18446744073709551616) : ∃ t, ref08_once s = some t ∧ DnS 1 s t := by
  by_cases h0 : s.Counts.length = 0
  · refine ⟨⟨0, []⟩, ?_, .inl ⟨h0, rfl⟩⟩
    unfold ref08_once
    rw [loop_brk (b := (0, []))]
    · rfl
    · unfold ref08_once_lp1
      dsimp only
      rw [bifFd (by omega)]
  · obtain ⟨t, h1, h2⟩ := once_eq h.off (by omega) (by have := h.len; omega) hb
    exact ⟨t, h1, .inr ⟨by omega, by simpa using h2⟩⟩
structure DnH (k : Nat) (h g : api_Hist) : Prop where
  s : g.Scale = h.Scale - k
  z : g.Zero = h.Zero
  p : DnS k h.Pos g.Pos
  n : DnS k h.Neg g.Neg
theorem DnH.inj {k : Nat} {h g g' : api_Hist} (a : DnH k h g) (b : DnH k h g') : g = g' := by
  obtain ⟨a1, a2, a3, a4⟩ := a
  obtain ⟨b1, b2, b3, b4⟩ := b
  have c1 := a3.inj b3
  have c2 := a4.inj b4
  cases g; cases g'
  simp only at *
  subst c1; subst c2
  rw [a1, b1, a2, b2]
theorem DnH.tot {k : Nat} {h g : api_Hist} (a : DnH k h g) : Lg.tot g = Lg.tot h := by unfold Lg.tot; rw [a.z, a.p.tot, a.n.tot]
theorem DnH.good {k : Nat} {h g : api_Hist} (a : DnH k h g) (hg : Good h) (hk : (k : Int) ≤ h.Scale + 10) : Good g :=
  ⟨by have := a.s; omega, by have := a.s; have := hg.s2; omega, a.p.right hg.p hg.sp, a.n.right hg.n hg.sn, by rw [a.tot]; exact hg.t⟩
theorem DnH.comp {a b : Nat} {h g i : api_Hist} (x : DnH a h g) (y : DnH b g i) : DnH (a + b) h i :=
  ⟨by rw [y.s, x.s]; omega, by rw [y.z, x.z], x.p.comp y.p, x.n.comp y.n⟩
theorem DnH.zero {h : api_Hist} (g : Good h) : DnH 0 h h := ⟨by simp, rfl, DnS.zero g.p, DnS.zero g.n⟩
def H0 : api_Hist := ⟨0, 0, ⟨0, []⟩, ⟨0, []⟩⟩
theorem Down_ok {h : api_Hist} (g : Good h) {k : Nat} (hk : (k : Int) ≤ h.Scale + 10) : ∃ x, hist_Down h (k : Int) = some (x, 0) ∧ DnH k h x := by
  have hE := (good_iff h).2 g
  have s1 := g.s1
  have s2 := g.s2
  have e : w64 (h.Scale - (-10)) = h.Scale + 10 := by rw [w64_id] <;> omega
  have hu : (toU64 (k : Int)).toNat = k := toU64_nat (by omega)
  obtain ⟨p, p1, p2⟩ := down_side g.p g.sp (k := k) (by omega) hu
  obtain ⟨n, n1, n2⟩ := down_side g.n g.sn (k := k) (by omega) hu
  refine ⟨⟨h.Scale - k, h.Zero, p, n⟩, ?_, rfl, rfl, p2, n2⟩
  unfold hist_Down
  rw [Check_eq g.ok, bind_some, bifF (by simp [hE]), e, bifF (by simp; omega), p1, bind_some, n1, bind_some, w64_id (x := h.Scale - (k : Int)) (by omega) (by omega)]
theorem RDown_ok {h : api_Hist} (g : Good h) {k : Nat} (hk : (k : Int) ≤ h.Scale + 10) : ∃ x, ref08_Down h (k : Int) = some (x, 0) ∧ DnH k h x := by
  have hE := (good_iff h).2 g
  have s1 := g.s1
  have s2 := g.s2
  have key : ∀ (m i : Nat) (y : api_Hist), i + m = k → DnH i h y → ∃ x, loop (ref08_Down_lp1 (k : Int)) (y.Scale, y.Pos.Offset, y.Pos.Counts, y.Neg.Offset, y.Neg.Counts, (i : Int)) = some (.go (x.Scale, x.Pos.Offset, x.Pos.Counts, x.Neg.Offset, x.Neg.Counts)) ∧ DnH k h x := by
    intro m
    induction m with
    | zero =>
      intro i y hi hy
      obtain rfl : i = k := by omega
      refine ⟨y, loop_brk ?_, hy⟩
      unfold ref08_Down_lp1
      dsimp only
      rw [bifFd (by omega)]
    | succ m ih =>
      intro i y hi hy
      have gy := hy.good g (by omega)
      obtain ⟨p, p1, p2⟩ := once_side gy.p gy.sp
      obtain ⟨n, n1, n2⟩ := once_side gy.n gy.sn
      have ys1 := gy.s1
      have ys2 := gy.s2
      have hz : DnH (i + 1) h ⟨y.Scale - 1, y.Zero, p, n⟩ := hy.comp ⟨rfl, rfl, p2, n2⟩
      obtain ⟨x, x1, x2⟩ := ih (i + 1) _ (by omega) hz
      refine ⟨x, ?_, x2⟩
      rw [← x1]
      refine loop_next ?_
      have p1' : ref08_once ⟨y.Pos.Offset, y.Pos.Counts⟩ = some p := p1
      have n1' : ref08_once ⟨y.Neg.Offset, y.Neg.Counts⟩ = some n := n1
      unfold ref08_Down_lp1
      dsimp only
      rw [bifTd (by omega), p1', bind_some, n1', bind_some, lett_eq, w64_succ (by omega), w64_id (x := y.Scale - 1) (by omega) (by omega)]
  have e : w64 (h.Scale - (-10)) = h.Scale + 10 := by rw [w64_id] <;> omega
  obtain ⟨x, x1, x2⟩ := key k 0 h (by omega) (DnH.zero g)
  refine ⟨x, ?_, x2⟩
  have x1' : loop (ref08_Down_lp1 (k : Int)) (h.Scale, h.Pos.Offset, h.Pos.Counts, h.Neg.Offset, h.Neg.Counts, 0) = _ := x1
  have t1 := RTrim_eq g.p.off (by have := g.p.len; omega)
  have t2 := RTrim_eq g.n.off (by have := g.n.len; omega)
  rw [trim_right ((right_iff _).2 g.p)] at t1
  rw [trim_right ((right_iff _).2 g.n)] at t2
  unfold ref08_Down
  rw [RCheck_eq g.ok, bind_some, bifF (by simp [hE]), e, bifF (by simp; omega), t1, bind_some, t2, bind_some, bind_some, bind_some]
  dsimp only
  rw [x1', flow_go, x2.z.symm]
/-! ### which are the same -/
theorem sameSide_self {s : api_Side} (hl : s.Counts.length ≤ 1000000) : ref08_SameSide s s = some true := by
  have key : ∀ (m i : Nat), i + m = s.Counts.length → loop (ref08_SameSide_lp1 s s) (i : Int) = some (.go ()) := by
    intro m
    induction m with
    | zero =>
      intro i hi
      refine loop_brk ?_
      unfold ref08_SameSide_lp1
      rw [bifFd (by omega)]
    | succ m ih =>
      intro i hi
      rw [loop_next (s' := ((i + 1 : Nat) : Int)), ih (i + 1) (by omega)]
      unfold ref08_SameSide_lp1
      rw [bifTd (by omega), idx_nat (by omega), bind_some, bind_some, bifF (by simp), lett_eq, w64_succ (by omega)]
  have h0 : loop (ref08_SameSide_lp1 s s) 0 = _ := key s.Counts.length 0 (by omega)
  unfold ref08_SameSide
  rw [bifF (by simp), h0]; rfl
theorem same_self {h : api_Hist} (hp : h.Pos.Counts.length ≤ 1000000) (hn : h.Neg.Counts.length ≤ 1000000) : ref08_Same h h = some true := by
  unfold ref08_Same
  rw [bifT (by simp), sameSide_self hp, bind_some, bind_some, cond_true, sameSide_self hn]; rfl
/-! ### as coarse as it must be -/
end Go.Lg
namespace Go.Lg
attribute [local irreducible] w64 toU64 toU8 shlU shrU shlB shrB
/-! ### a bucket -/
def atS (s : api_Side) (i : Int) : UInt64 := if s.Offset ≤ i then s.Counts.getD (i - s.Offset).toNat 0 else 0
theorem toU64_diff {a b : Int} (ha : I64 a) (hb : I64 b) (h : b ≤ a) : (toU64 a - toU64 b).toNat = (a - b).toNat := by
  unfold I64 at ha hb
  rw [UInt64.toNat_sub]
  have e1 : (toU64 a).toNat = (a % 18446744073709551616).toNat := by
    unfold toU64
    simp only [UInt64.toNat_ofNat']
    rw [Nat.mod_eq_of_lt]; omega
  have e2 : (toU64 b).toNat = (b % 18446744073709551616).toNat := by
    unfold toU64
    simp only [UInt64.toNat_ofNat']
    rw [Nat.mod_eq_of_lt]; omega
  rw [e1, e2]; omega
theorem At_eq {s : api_Side} {i : Int} (ho : I64 s.Offset) (hi : I64 i) (hl : s.Counts.length ≤ 1000000) : hist_At s i = some (atS s i) := by
  unfold hist_At atS
  by_cases h : s.Offset ≤ i
  · rw [if_pos h]
    have hd := toU64_diff hi ho h
    have hn := toU64_nat (x := s.Counts.length) (by omega)
    by_cases hlt : (i - s.Offset).toNat < s.Counts.length
    · rw [bifF, idx_of (n := (i - s.Offset).toNat) _ hlt, bind_some, getD_lt hlt]
      · rw [w64_id] <;> unfold I64 at * <;> omega
      · rw [Bool.or_eq_false_iff]
        exact ⟨decide_eq_false (by omega), decide_eq_false (by rw [UInt64.le_iff_toNat_le, hd, hn]; omega)⟩
    · rw [bifT, List.getD_eq_getElem?_getD, List.getElem?_eq_none (by omega)]; rfl
      rw [Bool.or_eq_true]
      exact .inr (decide_eq_true (by rw [UInt64.le_iff_toNat_le, hd, hn]; omega))
  · rw [if_neg h, bifT]
    rw [Bool.or_eq_true]
    exact .inl (decide_eq_true (by omega))
theorem atS_su (s : api_Side) (i : Int) : su (s.Counts.take (i + 1 - s.Offset).toNat) = su (s.Counts.take (i - s.Offset).toNat) + (atS s i).toNat := by
  unfold atS
  by_cases h : s.Offset ≤ i
  · rw [if_pos h]
    obtain ⟨k, hk⟩ : ∃ k : Nat, i - s.Offset = k := ⟨(i - s.Offset).toNat, by omega⟩
    rw [hk, show (i + 1 - s.Offset).toNat = k + 1 by omega, show ((k : Int)).toNat = k by omega]
    by_cases hlt : k < s.Counts.length
    · rw [su_take_succ hlt, getD_lt hlt]
    · rw [su_all _ (by omega), su_all _ (by omega), List.getD_eq_getElem?_getD, List.getElem?_eq_none (by omega)]; rfl
  · rw [if_neg h, show (i + 1 - s.Offset).toNat = 0 by omega, show (i - s.Offset).toNat = 0 by omega]; rfl
/-! ### answers that the document fixes -/
/-! ### the laws -/
theorem light_eq (h : api_Hist) : ref08_Light h = some (decide ((h.Pos.Counts.length : Int) ≤ 300) && decide ((h.Neg.Counts.length : Int) ≤ 300)) := rfl
structure Is (h : api_Hist) : Prop where
  s : I64 h.Scale
  po : I64 h.Pos.Offset
  no : I64 h.Neg.Offset
theorem Is.ok {h : api_Hist} (i : Is h) (a : (h.Pos.Counts.length : Int) ≤ 300) (b : (h.Neg.Counts.length : Int) ≤ 300) : OkH h := ⟨i.s, i.po, i.no, by omega, by omega⟩
theorem H0_good : Good H0 := ⟨by decide, by decide, (right_iff _).1 (by decide), (right_iff _).1 (by decide), by decide⟩
theorem total_good {h : api_Hist} (g : Good h) : hist_Total h = some (UInt64.ofNat (tot h), true) := by
  rw [total_eq g.ok.pl g.ok.nl, if_pos g.t]
/-! ### any bucket of a side -/
theorem trimS_len (s : api_Side) : (trimS s).Counts.length ≤ s.Counts.length := by
  unfold trimS
  split
  · simp
  · simp only [List.length_drop, List.length_take]; omega
end Go.Lg
namespace Go.Lg
noncomputable def fold_Merge_lp1 (r61 : api_Hist) (r62 : api_Hist) (r233 : Int) (x299 : List UInt64) : (List UInt64 × Int) → Option (Rnd (List UInt64 × Int) (List UInt64) (List UInt64)) := fun (c379, x382) =>
 bif decide (x382 < (x299.length : Int)) then
 (hist_At r61.Pos (w64 (r233 + x382))).bind fun r470 =>
 (hist_At r62.Pos (w64 (r233 + x382))).bind fun r486 =>
 (idx c379 x382).bind fun e498 =>
 lett ((r470 + r486)) fun t514 =>
 (setI c379 x382 t514).bind fun xs515 =>
 some (.next (xs515, w64 (x382 + 1)))
 else
 some (.brk c379)
noncomputable def fold_Merge_lp2 (r61 : api_Hist) (r62 : api_Hist) (r564 : Int) (x630 : List UInt64) : (List UInt64 × Int) → Option (Rnd (List UInt64 × Int) (List UInt64) (List UInt64)) := fun (c708, x711) =>
 bif decide (x711 < (x630.length : Int)) then
 (hist_At r61.Neg (w64 (r564 + x711))).bind fun r799 =>
 (hist_At r62.Neg (w64 (r564 + x711))).bind fun r815 =>
 (idx c708 x711).bind fun e827 =>
 lett ((r799 + r815)) fun t843 =>
 (setI c708 x711 t843).bind fun xs844 =>
 some (.next (xs844, w64 (x711 + 1)))
 else
 some (.brk c708)
noncomputable def fold_Merge (a0 : api_Hist) (a1 : api_Hist) : Option (api_Hist × Int) :=
 (fold_Level a0 a1).bind fun (r61, r62, r63) =>
 bif (!decide (r63 = 0)) then
 some ((api_Hist.mk 0 0 (api_Side.mk 0 []) (api_Side.mk 0 [])), r63)
 else
 (hist_Total r61).bind fun (r143, r144) =>
 (hist_Total r62).bind fun (r158, r159) =>
 lett ((add64S r143 r158 (0 : UInt64))) fun t168 =>
 lett ((add64C r143 r158 (0 : UInt64))) fun carry169 =>
 bif (!decide (carry169 = 0)) then
 some ((api_Hist.mk 0 0 (api_Side.mk 0 []) (api_Side.mk 0 [])), 4)
 else
 flow ((fold_cover r61.Pos r62.Pos).bind fun (r233, r234) =>
 bif decide (160 < r234) then
 outs (some ((api_Hist.mk 0 0 (api_Side.mk 0 []) (api_Side.mk 0 [])), 1))
 else
 bif decide (r234 = 0) then
 some (.go (0, []))
 else
 ((mk r234 (0 : UInt64)).bind fun t308 =>
 some t308).bind fun x299 =>
 (flow (loop (fold_Merge_lp1 r61 r62 r233 x299) (x299, 0)) fun c386 =>
 some c386).bind fun c371 =>
 some (.go (r233, c371))) fun (c203, c204) =>
 flow ((fold_cover r61.Neg r62.Neg).bind fun (r564, r565) =>
 bif decide (160 < r565) then
 outs (some ((api_Hist.mk 0 0 (api_Side.mk 0 []) (api_Side.mk 0 [])), 1))
 else
 bif decide (r565 = 0) then
 some (.go (0, []))
 else
 ((mk r565 (0 : UInt64)).bind fun t639 =>
 some t639).bind fun x630 =>
 (flow (loop (fold_Merge_lp2 r61 r62 r564 x630) (x630, 0)) fun c715 =>
 some c715).bind fun c700 =>
 some (.go (r564, c700))) fun (c531, c532) =>
 some ((api_Hist.mk r61.Scale (r61.Zero + r62.Zero) (api_Side.mk c203 c204) (api_Side.mk c531 c532)), 0)
noncomputable def law09_awake  : Option Bool :=
 (fold_Merge (api_Hist.mk 1 0 (api_Side.mk 2 [1]) (api_Side.mk 0 [])) (api_Hist.mk 0 0 (api_Side.mk 1 [1]) (api_Side.mk 0 []))).bind fun (r55, r56) =>
 (fold_Sub r55 (api_Hist.mk 0 0 (api_Side.mk 1 [1]) (api_Side.mk 0 []))).bind fun (r97, r98) =>
 (bif (((decide (r56 = 0)) && (decide (r98 = 0))) && (decide (r55.Scale = 0))) then
 (hist_At r55.Pos 1).bind fun r149 =>
 some (decide (r149 = 2))
 else
 some false).bind fun x136 =>
 (bif x136 then
 (hist_At r97.Pos 1).bind fun r168 =>
 some (decide (r168 = 1))
 else
 some false).bind fun x158 =>
 (bif x158 then
 (fold_Empty r97).bind fun r192 =>
 some (!r192)
 else
 some false).bind fun x177 =>
 (bif x177 then
 (fold_Empty (api_Hist.mk 0 0 (api_Side.mk 0 []) (api_Side.mk 0 []))).bind fun r208 =>
 some r208
 else
 some false).bind fun x201 =>
 some x201
noncomputable def ref09_reach (a0 : api_Side) (a1 : api_Side) : Option (Int × Int × Bool) :=
 bif ((decide ((a0.Counts.length : Int) = 0)) && (decide ((a1.Counts.length : Int) = 0))) then
 some (0, 0, false)
 else
 (bif decide ((a0.Counts.length : Int) = 0) then
 some (a1.Offset, a1.Counts)
 else
 some (a0.Offset, a0.Counts)).bind fun (c40, c41) =>
 (bif decide ((a1.Counts.length : Int) = 0) then
 some (c40, c41)
 else
 some (a1.Offset, a1.Counts)).bind fun (c60, c61) =>
 lett ((min c40 c60)) fun t85 =>
 lett (w64 ((max (w64 (c40 + (c41.length : Int))) (w64 (c60 + (c61.length : Int)))) - 1)) fun t86 =>
 some (t85, t86, true)
noncomputable def ref09_both_lp1 (a0 : api_Side) (a1 : api_Side) (r46 : Int) : (List UInt64 × Int) → Option (Rnd (List UInt64 × Int) (List UInt64) (api_Side × Bool)) := fun (c77, i80) =>
 bif decide (i80 ≤ r46) then
 (ref09_At a0 i80).bind fun r137 =>
 (ref09_At a1 i80).bind fun r152 =>
 (app c77 [(r137 + r152)]).bind fun xs169 =>
 lett (w64 (i80 + 1)) fun i194 =>
 some (.next (xs169, i194))
 else
 some (.brk c77)
noncomputable def ref09_both (a0 : api_Side) (a1 : api_Side) : Option (api_Side × Bool) :=
 (ref09_reach a0 a1).bind fun (r45, r46, r47) =>
 bif (!r47) then
 some ((api_Side.mk 0 []), true)
 else
 bif decide (160 ≤ w64 (r46 - r45)) then
 some ((api_Side.mk 0 []), false)
 else
 flow (loop (ref09_both_lp1 a0 a1 r46) ([], r45)) fun c85 =>
 some ((api_Side.mk r45 c85), true)
noncomputable def ref09_Merge (a0 : api_Hist) (a1 : api_Hist) : Option (api_Hist × Int) :=
 (ref09_Level a0 a1).bind fun r61 =>
 bif (!decide (r61.E = 0)) then
 some ((api_Hist.mk 0 0 (api_Side.mk 0 []) (api_Side.mk 0 [])), r61.E)
 else
 (ref08_Total r61.X).bind fun (r137, r138) =>
 (ref08_Total r61.Y).bind fun (r152, r153) =>
 bif decide (((18446744073709551615 : UInt64) - r152) < r137) then
 some ((api_Hist.mk 0 0 (api_Side.mk 0 []) (api_Side.mk 0 [])), 4)
 else
 (ref09_both r61.X.Pos r61.Y.Pos).bind fun (r176, r177) =>
 (ref09_both r61.X.Neg r61.Y.Neg).bind fun (r214, r215) =>
 bif ((!r177) || (!r215)) then
 some ((api_Hist.mk 0 0 (api_Side.mk 0 []) (api_Side.mk 0 [])), 1)
 else
 some ((api_Hist.mk r61.X.Scale (r61.X.Zero + r61.Y.Zero) r176 r214), 0)
noncomputable def ref09_less_lp1 (a0 : api_Side) (a1 : api_Side) : Int → Option (Rnd Int Unit (Flow Unit (api_Side × Bool))) := fun i67 =>
 bif decide (i67 < (a1.Counts.length : Int)) then
 (idx a1.Counts i67).bind fun e98 =>
 (ref09_At a0 (w64 (a1.Offset + i67))).bind fun r142 =>
 bif decide (r142 < e98) then
 outr (outs (some ((api_Side.mk 0 []), false)))
 else
 lett (w64 (i67 + 1)) fun i163 =>
 some (.next i163)
 else
 some (.brk ())
noncomputable def ref09_less_lp2 (a0 : api_Side) (a1 : api_Side) (r45 : Int) (r46 : Int) : (List UInt64 × Int) → Option (Rnd (List UInt64 × Int) (List UInt64) (List UInt64)) := fun (c182, i185) =>
 bif ((decide (i185 ≤ r46)) && (decide (i185 < w64 (r45 + 400)))) then
 (ref09_At a0 i185).bind fun r246 =>
 (ref09_At a1 i185).bind fun r262 =>
 (app c182 [(r246 - r262)]).bind fun xs279 =>
 lett (w64 (i185 + 1)) fun i304 =>
 some (.next (xs279, i304))
 else
 some (.brk c182)
noncomputable def ref09_less (a0 : api_Side) (a1 : api_Side) : Option (api_Side × Bool) :=
 (ref09_reach a0 a1).bind fun (r45, r46, r47) =>
 bif (!r47) then
 some ((api_Side.mk 0 []), true)
 else
 flow (flow (loop (ref09_less_lp1 a0 a1) 0) fun (_ : Unit) =>
 some (.go ())) fun (_ : Unit) =>
 (flow (loop (ref09_less_lp2 a0 a1 r45 r46) ([], r45)) fun c190 =>
 some c190).bind fun c173 =>
 (ref08_Trim (api_Side.mk r45 c173)).bind fun r314 =>
 some (r314, true)
noncomputable def ref09_Sub (a0 : api_Hist) (a1 : api_Hist) : Option (api_Hist × Int) :=
 (ref09_Level a0 a1).bind fun r61 =>
 bif (!decide (r61.E = 0)) then
 some ((api_Hist.mk 0 0 (api_Side.mk 0 []) (api_Side.mk 0 [])), r61.E)
 else
 (ref09_less r61.X.Pos r61.Y.Pos).bind fun (r137, r138) =>
 (ref09_less r61.X.Neg r61.Y.Neg).bind fun (r174, r175) =>
 bif (((!r138) || (!r175)) || (decide (r61.X.Zero < r61.Y.Zero))) then
 some ((api_Hist.mk 0 0 (api_Side.mk 0 []) (api_Side.mk 0 [])), 7)
 else
 some ((api_Hist.mk r61.X.Scale (r61.X.Zero - r61.Y.Zero) r137 r174), 0)
noncomputable def fold_Sum_lp1 (a0 : List api_Hist) : (Int × UInt64 × Int × List UInt64 × Int × List UInt64 × Int) → Option (Rnd (Int × UInt64 × Int × List UInt64 × Int × List UInt64 × Int) (Int × UInt64 × Int × List UInt64 × Int × List UInt64) (api_Hist × Int)) := fun (c29, c30, c31, c32, c35, c36, x39) =>
 bif decide (x39 < (a0.length : Int)) then
 (idx a0 x39).bind fun e64 =>
 (fold_Merge (api_Hist.mk c29 c30 (api_Side.mk c31 c32) (api_Side.mk c35 c36)) e64).bind fun (r107, r108) =>
 bif (!decide (r108 = 0)) then
 outr (some ((api_Hist.mk 0 0 (api_Side.mk 0 []) (api_Side.mk 0 [])), r108))
 else
 some (.next (r107.Scale, r107.Zero, r107.Pos.Offset, r107.Pos.Counts, r107.Neg.Offset, r107.Neg.Counts, w64 (x39 + 1)))
 else
 some (.brk (c29, c30, c31, c32, c35, c36))
noncomputable def fold_Sum (a0 : List api_Hist) : Option (api_Hist × Int) :=
 flow (loop (fold_Sum_lp1 a0) (20, 0, 0, [], 0, [], 0)) fun (c44, c45, c46, c47, c50, c51) =>
 some ((api_Hist.mk c44 c45 (api_Side.mk c46 c47) (api_Side.mk c50 c51)), 0)
end Go.Lg
namespace Go.Lg
attribute [local irreducible] w64 toU64 toU8 shlU shrU shlB shrB
/-! ### buckets -/
theorem atS_empty {s : api_Side} (h : s.Counts.length = 0) (i : Int) : atS s i = 0 := by
  unfold atS
  split
  · rw [List.getD_eq_getElem?_getD, List.getElem?_eq_none (by omega)]; rfl
  · rfl
theorem atS_out {s : api_Side} {i : Int} (h : i < s.Offset ∨ s.Offset + s.Counts.length ≤ i) : atS s i = 0 := by
  unfold atS
  split
  · rw [List.getD_eq_getElem?_getD, List.getElem?_eq_none (by omega)]; rfl
  · rfl
theorem atS_in {s : api_Side} {k : Nat} (h : k < s.Counts.length) : atS s (s.Offset + k) = s.Counts[k] := by
  unfold atS
  rw [if_pos (by omega), show (s.Offset + (k : Int) - s.Offset).toNat = k by omega, getD_lt h]
theorem atS_le (s : api_Side) (i : Int) : (atS s i).toNat ≤ su s.Counts := by
  have a := atS_su s i
  have b := su_take_le s.Counts (i + 1 - s.Offset).toNat
  omega
/-- none of its ends is empty -/
structure Tr (s : api_Side) : Prop where
  z : s.Counts.length = 0 → s.Offset = 0
  f : 0 < s.Counts.length → atS s s.Offset ≠ 0
  e : 0 < s.Counts.length → atS s (s.Offset + s.Counts.length - 1) ≠ 0
theorem RightS.tr {s : api_Side} (h : RightS s) : Tr s := by
  refine ⟨h.z, fun hp => ?_, fun hp => ?_⟩
  · have := atS_in (s := s) (k := 0) hp
    rw [show s.Offset + ((0 : Nat) : Int) = s.Offset by omega] at this
    rw [this]; exact h.f hp
  · have := atS_in (s := s) (k := s.Counts.length - 1) (by omega)
    rw [show s.Offset + ((s.Counts.length - 1 : Nat) : Int) = s.Offset + s.Counts.length - 1 by omega] at this
    rw [this]; exact h.e hp
theorem Tr.ext {s t : api_Side} (hs : Tr s) (ht : Tr t) (h : ∀ i, atS s i = atS t i) : s = t := by
  by_cases a : s.Counts.length = 0
  · by_cases b : t.Counts.length = 0
    · have c := hs.z a; have d := ht.z b
      cases s; cases t
      simp only at a b c d
      rw [c, d, List.eq_nil_of_length_eq_zero a, List.eq_nil_of_length_eq_zero b]
    · exact absurd ((h _).symm.trans (atS_empty a _)) (ht.f (by omega))
  · by_cases b : t.Counts.length = 0
    · exact absurd ((h _).trans (atS_empty b _)) (hs.f (by omega))
    · have q : ∀ {u v : api_Side}, Tr u → Tr v → 0 < u.Counts.length → (∀ i, atS u i = atS v i) → v.Offset ≤ u.Offset ∧ u.Offset + u.Counts.length ≤ v.Offset + v.Counts.length := by
        intro u v hu hv hp h
        have h1 := hu.f hp
        have h2 := hu.e hp
        rw [h] at h1 h2
        constructor
        · exact Int.not_lt.1 fun hx => h1 (atS_out (.inl hx))
        · have : u.Offset + u.Counts.length - 1 < v.Offset + v.Counts.length := Int.not_le.1 fun hx => h2 (atS_out (.inr hx))
          omega
      have q1 := q hs ht (by omega) h
      have q2 := q ht hs (by omega) fun i => (h i).symm
      have ho : s.Offset = t.Offset := by omega
      have hc : s.Counts = t.Counts := by
        apply List.ext_getElem (by omega)
        intro i h1 h2
        rw [← atS_in h1, ← atS_in h2, ho, h]
      cases s; cases t
      simp only at ho hc
      rw [ho, hc]
/-! ### two sides together -/
def loS (x y : api_Side) : Int := if x.Counts.length = 0 then y.Offset else if y.Counts.length = 0 then x.Offset else min x.Offset y.Offset
def hiS (x y : api_Side) : Int := if x.Counts.length = 0 then y.Offset + y.Counts.length else if y.Counts.length = 0 then x.Offset + x.Counts.length else max (x.Offset + x.Counts.length) (y.Offset + y.Counts.length)
def onL (f : Int → UInt64) (lo : Int) (n : Nat) : List UInt64 := (List.range n).map fun (i : Nat) => f (lo + i)
theorem onL_len {f : Int → UInt64} {lo : Int} {n : Nat} : (onL f lo n).length = n := by simp [onL]
theorem onL_get {f : Int → UInt64} {lo : Int} {n i : Nat} (h : i < (onL f lo n).length) : (onL f lo n)[i] = f (lo + i) := by simp [onL]
theorem onL_at {f : Int → UInt64} {lo : Int} {n : Nat} (h0 : ∀ i, i < lo ∨ lo + n ≤ i → f i = 0) (i : Int) : atS ⟨lo, onL f lo n⟩ i = f i := by
  by_cases h : lo ≤ i ∧ i < lo + n
  · obtain ⟨k, rfl⟩ : ∃ k : Nat, i = lo + k := ⟨(i - lo).toNat, by omega⟩
    have hk : k < (onL f lo n).length := by rw [onL_len]; omega
    have := atS_in (s := ⟨lo, onL f lo n⟩) (k := k) hk
    rw [this, onL_get]
  · rw [h0 i (by omega)]
    exact atS_out (by dsimp only; rw [onL_len]; omega)
theorem onL_succ {f : Int → UInt64} {lo : Int} {n : Nat} : onL f lo (n + 1) = onL f lo n ++ [f (lo + n)] := by simp [onL, List.range_succ]
def addS (x y : api_Side) (i : Int) : UInt64 := atS x i + atS y i
def widthS (x y : api_Side) : Nat := (hiS x y - loS x y).toNat
def mergeS (x y : api_Side) : api_Side := if widthS x y = 0 then ⟨0, []⟩ else ⟨loS x y, onL (addS x y) (loS x y) (widthS x y)⟩
structure Cov (x y : api_Side) : Prop where
  le : loS x y ≤ hiS x y
  b : -1073741824 ≤ loS x y ∧ hiS x y ≤ 1073741825
  cx : 0 < x.Counts.length → loS x y ≤ x.Offset ∧ x.Offset + x.Counts.length ≤ hiS x y
  cy : 0 < y.Counts.length → loS x y ≤ y.Offset ∧ y.Offset + y.Counts.length ≤ hiS x y
  lo : loS x y = hiS x y ∨ (0 < x.Counts.length ∧ loS x y = x.Offset) ∨ (0 < y.Counts.length ∧ loS x y = y.Offset)
  hi : loS x y = hiS x y ∨ (0 < x.Counts.length ∧ hiS x y = x.Offset + x.Counts.length) ∨ (0 < y.Counts.length ∧ hiS x y = y.Offset + y.Counts.length)
  z : loS x y = hiS x y ↔ x.Counts.length = 0 ∧ y.Counts.length = 0
theorem cov {x y : api_Side} (hx : RightS x) (hy : RightS y) : Cov x y := by
  have a1 := hx.z; have a2 := hx.lo; have a3 := hx.hi
  have b1 := hy.z; have b2 := hy.lo; have b3 := hy.hi
  constructor <;> unfold loS <;> (try unfold hiS) <;> split <;> (try split) <;> omega
theorem cover_eq {x y : api_Side} (hx : RightS x) (hy : RightS y) : fold_cover x y = some (loS x y, (widthS x y : Int)) := by
  have c := cov hx hy
  have l1 := hx.len; have l2 := hy.len
  unfold widthS
  rw [Int.toNat_of_nonneg (by have := c.le; omega)]
  have hxo := hx.off; have hyo := hy.off
  unfold fold_cover
  by_cases h1 : x.Counts.length = 0
  · rw [bifTd (by omega), lett_eq]
    unfold loS hiS
    rw [if_pos h1, if_pos h1]
    congr 2; omega
  · rw [bifFd (by omega)]
    by_cases h2 : y.Counts.length = 0
    · rw [bifTd (by omega), lett_eq]
      unfold loS hiS
      rw [if_neg h1, if_pos h2, if_neg h1, if_pos h2]
      congr 2; omega
    · have e1 : fold_ends x = some (x.Offset, x.Offset + x.Counts.length) := by
        unfold fold_ends
        rw [lett_eq, w64_id (by omega) (by omega)]
      have e2 : fold_ends y = some (y.Offset, y.Offset + y.Counts.length) := by
        unfold fold_ends
        rw [lett_eq, w64_id (by omega) (by omega)]
      rw [bifFd (by omega), e1, e2, bind_some]
      dsimp only
      rw [bind_some]
      dsimp only
      rw [lett_eq, lett_eq, lett_eq]
      unfold loS hiS
      rw [if_neg h1, if_neg h2, if_neg h1, if_neg h2, w64_id (by omega) (by omega)]
theorem add_out {x y : api_Side} (c : Cov x y) (i : Int) (h : i < loS x y ∨ hiS x y ≤ i) : addS x y i = 0 := by
  have hx : atS x i = 0 := by
    by_cases hp : 0 < x.Counts.length
    · have := c.cx hp; exact atS_out (by omega)
    · exact atS_empty (by omega) i
  have hy : atS y i = 0 := by
    by_cases hp : 0 < y.Counts.length
    · have := c.cy hp; exact atS_out (by omega)
    · exact atS_empty (by omega) i
  unfold addS; rw [hx, hy]; rfl
theorem merge_at {x y : api_Side} (c : Cov x y) (i : Int) : atS (mergeS x y) i = addS x y i := by
  have := c.le
  unfold mergeS
  split
  · rename_i h
    unfold widthS at h
    rw [add_out c i (by omega)]
    exact atS_empty rfl i
  · exact onL_at (fun j hj => add_out c j (by unfold widthS at hj; omega)) i
theorem add_nat {x y : api_Side} (hs : su x.Counts + su y.Counts < 18446744073709551616) (i : Int) : (addS x y i).toNat = (atS x i).toNat + (atS y i).toNat := by
  have a := atS_le x i; have b := atS_le y i
  unfold addS
  rw [UInt64.toNat_add, Nat.mod_eq_of_lt (by omega)]
theorem u_ne {a : UInt64} (h : a ≠ 0) : 1 ≤ a.toNat := by
  have : a.toNat ≠ 0 := fun e => h (UInt64.toNat_inj.1 (by rw [e]; rfl))
  omega
theorem ne_u {a : UInt64} (h : 1 ≤ a.toNat) : a ≠ 0 := by
  rintro rfl
  exact absurd h (by decide)
theorem merge_right {x y : api_Side} (hx : RightS x) (hy : RightS y) (hs : su x.Counts + su y.Counts < 18446744073709551616) (hw : widthS x y ≤ 160) : RightS (mergeS x y) := by
  have c := cov hx hy
  have cle := c.le
  have hat := merge_at c
  have hlo : 0 < widthS x y → addS x y (loS x y) ≠ 0 := by
    intro hp
    unfold widthS at hp
    apply ne_u
    rw [add_nat hs]
    rcases c.lo with e | ⟨e1, e2⟩ | ⟨e1, e2⟩
    · omega
    · have := u_ne (hx.tr.f e1); rw [e2]; omega
    · have := u_ne (hy.tr.f e1); rw [e2]; omega
  have hhi : 0 < widthS x y → addS x y (hiS x y - 1) ≠ 0 := by
    intro hp
    unfold widthS at hp
    apply ne_u
    rw [add_nat hs]
    rcases c.hi with e | ⟨e1, e2⟩ | ⟨e1, e2⟩
    · omega
    · have := u_ne (hx.tr.e e1); rw [e2]; omega
    · have := u_ne (hy.tr.e e1); rw [e2]; omega
  have cb := c.b
  unfold mergeS
  by_cases hz : widthS x y = 0
  · rw [if_pos hz]
    exact ⟨by simp, fun _ => rfl, fun h => by simp at h, fun h => by simp at h, fun h => by simp at h, fun h => by simp at h⟩
  · rw [if_neg hz]
    have hw' : (widthS x y : Int) = hiS x y - loS x y := by unfold widthS; omega
    refine ⟨by dsimp only; rw [onL_len]; exact hw, fun h => ?_, fun h => ?_, fun h => ?_, fun _ => ?_, fun _ => ?_⟩
    · dsimp only at h; rw [onL_len] at h; exact absurd h hz
    · dsimp only
      rw [onL_get, show loS x y + ((0 : Nat) : Int) = loS x y by omega]
      exact hlo (by omega)
    · dsimp only
      rw [onL_get]
      simp only [onL_len]
      rw [show loS x y + ((widthS x y - 1 : Nat) : Int) = hiS x y - 1 by omega]
      exact hhi (by omega)
    · exact cb.1
    · dsimp only; rw [onL_len]; omega
theorem merge_su {x y : api_Side} (hx : RightS x) (hy : RightS y) (hs : su x.Counts + su y.Counts < 18446744073709551616) : su (mergeS x y).Counts = su x.Counts + su y.Counts := by
  have c := cov hx hy
  have cle := c.le
  unfold mergeS
  by_cases hz : widthS x y = 0
  · rw [if_pos hz]
    have : loS x y = hiS x y := by unfold widthS at hz; omega
    have := c.z.1 this
    rw [List.eq_nil_of_length_eq_zero this.1, List.eq_nil_of_length_eq_zero this.2]; rfl
  · rw [if_neg hz]
    have hw' : (widthS x y : Int) = hiS x y - loS x y := by unfold widthS; omega
    have S0 : ∀ s : api_Side, (0 < s.Counts.length → loS x y ≤ s.Offset ∧ s.Offset + s.Counts.length ≤ hiS x y) →
        su (s.Counts.take (loS x y - s.Offset).toNat) = 0 ∧ su (s.Counts.take (hiS x y - s.Offset).toNat) = su s.Counts := by
      intro s h
      by_cases hp : 0 < s.Counts.length
      · have := h hp
        rw [show (loS x y - s.Offset).toNat = 0 by omega, su_all _ (show s.Counts.length ≤ (hiS x y - s.Offset).toNat by omega)]
        exact ⟨rfl, rfl⟩
      · rw [List.eq_nil_of_length_eq_zero (by omega : s.Counts.length = 0)]; simp [su_nil]
    have key : ∀ j : Nat, su (onL (addS x y) (loS x y) j) = su (x.Counts.take (loS x y + j - x.Offset).toNat) + su (y.Counts.take (loS x y + j - y.Offset).toNat) := by
      intro j
      induction j with
      | zero =>
        have h1 := (S0 x c.cx).1
        have h2 := (S0 y c.cy).1
        rw [show loS x y + ((0 : Nat) : Int) = loS x y by omega, h1, h2]; rfl
      | succ j ih =>
        rw [onL_succ, su_snoc, ih, add_nat hs]
        have h1 := atS_su x (loS x y + j)
        have h2 := atS_su y (loS x y + j)
        rw [show loS x y + ((j + 1 : Nat) : Int) = loS x y + j + 1 by omega, h1, h2]; omega
    have h := key (widthS x y)
    rw [show loS x y + (widthS x y : Int) = hiS x y by omega, (S0 x c.cx).2, (S0 y c.cy).2] at h
    exact h
end Go.Lg
namespace Go.Lg
attribute [local irreducible] w64 toU64 toU8 shlU shrU shlB shrB
/-! ### to one scale -/
structure Lev (a b x y : api_Hist) : Prop where
  ga : Good a
  gb : Good b
  dx : DnH (a.Scale - min a.Scale b.Scale).toNat a x
  dy : DnH (b.Scale - min a.Scale b.Scale).toNat b y
theorem Lev.gx {a b x y : api_Hist} (l : Lev a b x y) : Good x := l.dx.good l.ga (by have := l.ga.s1; have := l.gb.s1; omega)
theorem Lev.gy {a b x y : api_Hist} (l : Lev a b x y) : Good y := l.dy.good l.gb (by have := l.ga.s1; have := l.gb.s1; omega)
theorem Lev.inj {a b x y x' y' : api_Hist} (l : Lev a b x y) (l' : Lev a b x' y') : x = x' ∧ y = y' := ⟨l.dx.inj l'.dx, l.dy.inj l'.dy⟩
theorem Level_eq {a b : api_Hist} (oa : OkH a) (ob : OkH b) :
    (∃ e, e ≠ 0 ∧ fold_Level a b = some (H0, H0, e) ∧ ref09_Level a b = some ⟨H0, H0, e⟩ ∧ (histE a ≠ 0 ∨ histE b ≠ 0)) ∨ ∃ x y, fold_Level a b = some (x, y, 0) ∧ ref09_Level a b = some ⟨x, y, 0⟩ ∧ Lev a b x y := by
  have r0 : fold_Level_lp1 a b ((0 : Nat) : Int) = if histE a ≠ 0 then some (.out (.out (H0, H0, histE a))) else some (.next ((1 : Nat) : Int)) := by
    unfold fold_Level_lp1
    rw [bifTd (by omega), idx_nat (by simp), bind_some]
    dsimp only [List.getElem_cons_zero]
    rw [Check_eq oa, bind_some]
    by_cases e : histE a = 0
    · rw [if_neg (fun h => h e), bifF (by simp [e]), w64_succ (by omega)]
    · rw [if_pos e, bifT (by simp [e])]; rfl
  have r1 : fold_Level_lp1 a b ((1 : Nat) : Int) = if histE b ≠ 0 then some (.out (.out (H0, H0, histE b))) else some (.next ((2 : Nat) : Int)) := by
    unfold fold_Level_lp1
    rw [bifTd (by omega), idx_nat (by simp), bind_some]
    dsimp only [List.getElem_cons_succ, List.getElem_cons_zero]
    rw [Check_eq ob, bind_some]
    by_cases e : histE b = 0
    · rw [if_neg (fun h => h e), bifF (by simp [e]), w64_succ (by omega)]
    · rw [if_pos e, bifT (by simp [e])]; rfl
  have r2 : fold_Level_lp1 a b ((2 : Nat) : Int) = some (.brk ()) := by
    unfold fold_Level_lp1
    rw [bifFd (by omega)]
  have hL : loop (fold_Level_lp1 a b) 0 = loop (fold_Level_lp1 a b) ((0 : Nat) : Int) := rfl
  unfold fold_Level ref09_Level
  rw [hL, RCheck_eq oa, RCheck_eq ob, bind_some, bind_some]
  by_cases ha : histE a = 0
  case neg =>
    rw [if_pos ha] at r0
    refine .inl ⟨histE a, ha, ?_, ?_, .inl ha⟩
    · rw [loop_out r0]; rfl
    · rw [bifT (by simp [ha])]; rfl
  rw [if_neg (fun h => h ha)] at r0
  rw [loop_next r0, bifF (by simp [ha])]
  by_cases hb : histE b = 0
  case neg =>
    rw [if_pos hb] at r1
    refine .inl ⟨histE b, hb, ?_, ?_, .inr hb⟩
    · rw [loop_out r1]; rfl
    · rw [bifT (by simp [hb])]; rfl
  rw [if_neg (fun h => h hb)] at r1
  have ga := (good_iff a).1 ha
  have gb := (good_iff b).1 hb
  have a1 := ga.s1; have a2 := ga.s2; have b1 := gb.s1; have b2 := gb.s2
  have e1 : w64 (a.Scale - min a.Scale b.Scale) = ((a.Scale - min a.Scale b.Scale).toNat : Int) := by rw [w64_id] <;> omega
  have e2 : w64 (b.Scale - min a.Scale b.Scale) = ((b.Scale - min a.Scale b.Scale).toNat : Int) := by rw [w64_id] <;> omega
  have em : (bif decide (b.Scale < a.Scale) then some b.Scale else some a.Scale) = some (min a.Scale b.Scale) := by
    by_cases h : b.Scale < a.Scale
    · rw [bifTd h]; congr 1; omega
    · rw [bifFd h]; congr 1; omega
  obtain ⟨x, x1, x2⟩ := Down_ok ga (k := (a.Scale - min a.Scale b.Scale).toNat) (by omega)
  obtain ⟨y, y1, y2⟩ := Down_ok gb (k := (b.Scale - min a.Scale b.Scale).toNat) (by omega)
  obtain ⟨x', x1', x2'⟩ := RDown_ok ga (k := (a.Scale - min a.Scale b.Scale).toNat) (by omega)
  obtain ⟨y', y1', y2'⟩ := RDown_ok gb (k := (b.Scale - min a.Scale b.Scale).toNat) (by omega)
  obtain rfl := x2.inj x2'
  obtain rfl := y2.inj y2'
  refine .inr ⟨x, y, ?_, ?_, ⟨ga, gb, x2, y2⟩⟩
  · rw [loop_next r1, loop_brk r2, flow_go, flow_go, lett_eq, e1, e2, x1, bind_some]
    dsimp only
    rw [y1, bind_some]
  · rw [bifF (by simp [hb]), em, bind_some, e1, e2, x1', bind_some]
    dsimp only
    rw [y1', bind_some]
/-! ### put together -/
noncomputable def mlp (A B : api_Side) (o : Int) (x : List UInt64) : (List UInt64 × Int) → Option (Rnd (List UInt64 × Int) (List UInt64) (List UInt64)) := fun (c, i) =>
  bif decide (i < (x.length : Int)) then
    (hist_At A (w64 (o + i))).bind fun p => (hist_At B (w64 (o + i))).bind fun q => (idx c i).bind fun _e => lett (p + q) fun t => (setI c i t).bind fun xs => some (.next (xs, w64 (i + 1)))
  else some (.brk c)
theorem mlp_eq {x y : api_Side} (hx : RightS x) (hy : RightS y) (l : List UInt64) (hl : l.length = widthS x y) (c0 : List UInt64) (hc : c0.length = widthS x y) :
    loop (mlp x y (loS x y) l) (c0, 0) = some (.go (onL (addS x y) (loS x y) (widthS x y))) := by
  have c := cov hx hy
  have cb := c.b
  have cle := c.le
  have hw : (widthS x y : Int) = hiS x y - loS x y := by unfold widthS; omega
  have hxo := hx.off; have hyo := hy.off
  have key : ∀ (m i : Nat) (z : List UInt64), i + m = widthS x y → z.length = widthS x y → z.take i = onL (addS x y) (loS x y) i → loop (mlp x y (loS x y) l) (z, (i : Int)) = some (.go (onL (addS x y) (loS x y) (widthS x y))) := by
    intro m
    induction m with
    | zero =>
      intro i z hi hz ht
      refine loop_brk ?_
      unfold mlp
      dsimp only
      rw [bifFd (by omega)]
      obtain rfl : i = widthS x y := by omega
      rw [List.take_of_length_le (by omega)] at ht
      rw [ht]
    | succ m ih =>
      intro i z hi hz ht
      have hlt : i < z.length := by omega
      have e1 : w64 (loS x y + (i : Int)) = loS x y + i := w64_id (by omega) (by omega)
      have i1 : I64 (loS x y + i) := by unfold I64; omega
      have hb : addS x y (loS x y + i) = atS x (loS x y + i) + atS y (loS x y + i) := rfl
      rw [← ih (i + 1) (z.set i (addS x y (loS x y + i))) (by omega) (by simpa using hz) (by
        rw [take_snoc (by simpa using hlt), onL_succ, List.take_set_of_le (Nat.le_refl i), ht, List.getElem_set_self])]
      refine loop_next ?_
      unfold mlp
      dsimp only
      rw [bifTd (by omega), e1, At_eq (by unfold I64; omega) i1 (by have := hx.len; omega), bind_some, At_eq (by unfold I64; omega) i1 (by have := hy.len; omega), bind_some, idx_nat hlt, bind_some, lett_eq, setI_nat hlt, bind_some, w64_succ (by omega), hb]
  exact key (widthS x y) 0 c0 (by omega) hc (by simp [onL])
/-- a side of the sum, or that it is too wide -/
noncomputable def part (p : Option (Int × Int)) (F : Int → Int → Option (Flow (Int × List UInt64) (api_Hist × Int))) : Option (Flow (Int × List UInt64) (api_Hist × Int)) := p.bind fun (a, b) => F a b
theorem merge_side {x y : api_Side} (hx : RightS x) (hy : RightS y) (lp : Int → List UInt64 → (List UInt64 × Int) → Option (Rnd (List UInt64 × Int) (List UInt64) (List UInt64))) (hlp : ∀ o l, lp o l = mlp x y o l) :
    ((fold_cover x y).bind fun (r233, r234) =>
     bif decide (160 < r234) then
      outs (some ((api_Hist.mk 0 0 (api_Side.mk 0 []) (api_Side.mk 0 [])), (1 : Int)))
     else
     bif decide (r234 = 0) then
      some (.go ((0 : Int), []))
     else
     ((mk r234 (0 : UInt64)).bind fun t308 =>
     some t308).bind fun x299 =>
     (flow (loop (lp r233 x299) (x299, 0)) fun c386 =>
     some c386).bind fun c371 =>
     some (.go (r233, c371))) = if 160 < widthS x y then some (.out (H0, 1)) else some (.go ((mergeS x y).Offset, (mergeS x y).Counts)) := by
  rw [cover_eq hx hy, bind_some]
  dsimp only
  by_cases h : 160 < widthS x y
  · rw [if_pos h, bifTd (by omega)]; rfl
  · rw [if_neg h, bifFd (by omega)]
    unfold mergeS
    by_cases hz : widthS x y = 0
    · rw [bifTd (by omega), if_pos hz]
    · have hm : mk (widthS x y : Int) (0 : UInt64) = some (List.replicate (widthS x y) 0) := by
        unfold mk LIM
        rw [if_pos (by omega)]; simp
      rw [bifFd (by omega), if_neg hz, hm, bind_some, bind_some, hlp, mlp_eq hx hy _ (by simp) _ (by simp), flow_go, bind_some]
def sumH (x y : api_Hist) : api_Hist := ⟨x.Scale, x.Zero + y.Zero, mergeS x.Pos y.Pos, mergeS x.Neg y.Neg⟩
/-- what comes of two that were brought to one scale -/
def mergeE (x y : api_Hist) : api_Hist × Int :=
  if 18446744073709551616 ≤ tot x + tot y then (H0, 4) else if 160 < widthS x.Pos y.Pos ∨ 160 < widthS x.Neg y.Neg then (H0, 1) else (sumH x y, 0)
theorem add64C_iff (a b : Nat) (ha : a < 18446744073709551616) (hb : b < 18446744073709551616) : add64C (UInt64.ofNat a) (UInt64.ofNat b) 0 = 0 ↔ a + b < 18446744073709551616 := by
  have z : (0 : UInt64).toNat = 0 := rfl
  have ea : (UInt64.ofNat a).toNat = a := by rw [UInt64.toNat_ofNat']; omega
  have eb : (UInt64.ofNat b).toNat = b := by rw [UInt64.toNat_ofNat']; omega
  have e : (add64C (UInt64.ofNat a) (UInt64.ofNat b) 0).toNat = (a + b) / 18446744073709551616 := by
    unfold add64C
    rw [ea, eb, z, Nat.add_zero, UInt64.toNat_ofNat']; omega
  rw [← UInt64.toNat_inj, e, z]; omega
theorem Merge_lev {a b x y : api_Hist} (h : fold_Level a b = some (x, y, 0)) (gx : Good x) (gy : Good y) : fold_Merge a b = some (mergeE x y) := by
  unfold fold_Merge
  rw [h, bind_some]
  dsimp only
  rw [bifF (by rfl), total_good gx, bind_some]
  dsimp only
  rw [total_good gy, bind_some]
  dsimp only
  rw [lett_eq, lett_eq]
  have hc := add64C_iff (tot x) (tot y) gx.t gy.t
  unfold mergeE
  by_cases h1 : 18446744073709551616 ≤ tot x + tot y
  · rw [if_pos h1, bifT]; rfl
    rw [Bool.not_eq_true', decide_eq_false_iff_not, hc]; omega
  · rw [if_neg h1, bifF (by rw [Bool.not_eq_false', decide_eq_true_eq, hc]; omega)]
    have m1 := merge_side gx.p gy.p (fold_Merge_lp1 x y) (fun _ _ => rfl)
    have m2 := merge_side gx.n gy.n (fold_Merge_lp2 x y) (fun _ _ => rfl)
    rw [m1, m2]
    by_cases h2 : 160 < widthS x.Pos y.Pos
    · rw [if_pos h2, if_pos (Or.inl h2 : 160 < widthS x.Pos y.Pos ∨ 160 < widthS x.Neg y.Neg)]; rfl
    · rw [if_neg h2, flow_go]
      dsimp only
      by_cases h3 : 160 < widthS x.Neg y.Neg
      · rw [if_pos h3, if_pos (Or.inr h3 : 160 < widthS x.Pos y.Pos ∨ 160 < widthS x.Neg y.Neg)]; rfl
      · rw [if_neg h3, if_neg (by omega), flow_go]; rfl
end Go.Lg
namespace Go.Lg
attribute [local irreducible] w64 toU64 toU8 shlU shrU shlB shrB
/-! ### without empty ends -/
theorem zl_lt : ∀ (l : List UInt64) (j : Nat), j < zl l → l.getD j 0 = 0
  | [], j, h => by simp [zl] at h
  | x :: l, j, h => by
    rw [zl] at h
    split at h
    · rename_i hx
      cases j with
      | zero => simpa using hx
      | succ j => have := zl_lt l j (by omega); simpa using this
    · omega
theorem kl_ge {l : List UInt64} {a : Nat} : ∀ n j, kl l a n ≤ j → j < n → l.getD j 0 = 0
  | 0, j, h, h' => by omega
  | n + 1, j, h, h' => by
    rw [kl] at h
    split at h
    · rename_i hx
      by_cases e : j = n
      · rw [e]; exact hx.2
      · exact kl_ge n j h (by omega)
    · omega
theorem kl_last {l : List UInt64} {a : Nat} : ∀ n, a < kl l a n → l.getD (kl l a n - 1) 0 ≠ 0
  | 0, h => by simp [kl] at h
  | n + 1, h => by
    rw [kl] at h ⊢
    split
    · rename_i hx; rw [if_pos hx] at h; exact kl_last n h
    · rename_i hx
      rw [if_neg hx] at h
      intro e
      exact hx ⟨h, by simpa using e⟩
theorem atS_getD {s : api_Side} {i : Int} (h : s.Offset ≤ i) : atS s i = s.Counts.getD (i - s.Offset).toNat 0 := by unfold atS; rw [if_pos h]
theorem trim_at (s : api_Side) (i : Int) : atS (trimS s) i = atS s i := by
  have z1 := zl_le s.Counts
  unfold trimS
  by_cases h : zl s.Counts = s.Counts.length
  · rw [if_pos h, atS_empty rfl]
    by_cases hi : s.Offset ≤ i
    · rw [atS_getD hi]
      by_cases hj : (i - s.Offset).toNat < s.Counts.length
      · rw [zl_lt _ _ (by omega)]
      · rw [List.getD_eq_getElem?_getD, List.getElem?_eq_none (by omega)]; rfl
    · rw [atS_out (.inl (by omega))]
  · rw [if_neg h]
    have k1 := kl_le s.Counts (zl s.Counts) s.Counts.length
    have hz := zl_at s.Counts (by omega)
    have k2 := kl_gt (l := s.Counts) (a := zl s.Counts) (by rw [getD_lt (by omega)]; exact hz) s.Counts.length (by omega)
    by_cases hi : s.Offset + zl s.Counts ≤ i
    · rw [atS_getD hi, atS_getD (by omega)]
      dsimp only
      rw [List.getD_eq_getElem?_getD, List.getElem?_drop, List.getElem?_take]
      rw [show zl s.Counts + (i - (s.Offset + zl s.Counts)).toNat = (i - s.Offset).toNat by omega]
      split
      · rw [List.getD_eq_getElem?_getD]
      · by_cases hj : (i - s.Offset).toNat < s.Counts.length
        · rw [kl_ge (a := zl s.Counts) s.Counts.length _ (by omega) hj]; rfl
        · rw [List.getD_eq_getElem?_getD, List.getElem?_eq_none (by omega)]
    · rw [atS_out (.inl (by dsimp only; omega))]
      by_cases hi : s.Offset ≤ i
      · rw [atS_getD hi, zl_lt _ _ (by omega)]
      · rw [atS_out (.inl (by omega))]
theorem trim_tr (s : api_Side) : Tr (trimS s) := by
  have z1 := zl_le s.Counts
  by_cases h : zl s.Counts = s.Counts.length
  · have e : trimS s = ⟨0, []⟩ := by unfold trimS; rw [if_pos h]
    rw [e]
    exact ⟨fun _ => rfl, fun h => by simp at h, fun h => by simp at h⟩
  · have k1 := kl_le s.Counts (zl s.Counts) s.Counts.length
    have hz := zl_at s.Counts (by omega)
    have k2 := kl_gt (l := s.Counts) (a := zl s.Counts) (by rw [getD_lt (by omega)]; exact hz) s.Counts.length (by omega)
    have k3 := kl_last (l := s.Counts) (a := zl s.Counts) s.Counts.length k2
    have e : trimS s = ⟨s.Offset + zl s.Counts, (s.Counts.take (kl s.Counts (zl s.Counts) s.Counts.length)).drop (zl s.Counts)⟩ := by unfold trimS; rw [if_neg h]
    have el : (trimS s).Counts.length = kl s.Counts (zl s.Counts) s.Counts.length - zl s.Counts := by rw [e]; simp only [List.length_drop, List.length_take]; omega
    have eo : (trimS s).Offset = s.Offset + zl s.Counts := by rw [e]
    refine ⟨fun h => by omega, fun _ => ?_, fun _ => ?_⟩
    · rw [trim_at, eo, atS_getD (by omega), show (s.Offset + (zl s.Counts : Int) - s.Offset).toNat = zl s.Counts by omega, getD_lt (by omega)]; exact hz
    · rw [trim_at, el, eo, atS_getD (by omega), show (s.Offset + (zl s.Counts : Int) + ((kl s.Counts (zl s.Counts) s.Counts.length - zl s.Counts : Nat) : Int) - 1 - s.Offset).toNat = kl s.Counts (zl s.Counts) s.Counts.length - 1 by omega]
      exact k3
/-! ### the document's way to put together -/
theorem RAt_eq {s : api_Side} (h : RightS s) {i : Int} (hi : -2000000000 ≤ i ∧ i ≤ 2000000000) : ref09_At s i = some (atS s i) := by
  have o := h.off; have l := h.len
  have e : w64 (s.Offset + s.Counts.length) = s.Offset + s.Counts.length := w64_id (by omega) (by omega)
  unfold ref09_At
  rw [e]
  by_cases hin : s.Offset ≤ i ∧ i < s.Offset + s.Counts.length
  · have e2 : w64 (i - s.Offset) = ((i - s.Offset).toNat : Int) := by rw [w64_id] <;> omega
    rw [bifF (by rw [Bool.or_eq_false_iff]; exact ⟨decide_eq_false (by omega), decide_eq_false (by omega)⟩), e2, idx_nat (by omega), bind_some, atS_getD hin.1, getD_lt (by omega)]
  · rw [bifT (by rw [Bool.or_eq_true, decide_eq_true_eq, decide_eq_true_eq]; omega), atS_out (by omega)]
end Go.Lg
namespace Go.Lg
attribute [local irreducible] w64 toU64 toU8 shlU shrU shlB shrB
/-! ### taken away -/
def Enough (x y : api_Side) (n : Nat) : Prop := ∀ (k : Nat) (h : k < y.Counts.length), k < n → y.Counts[k] ≤ atS x (y.Offset + k)
def enough (x y : api_Side) : Bool := (List.range y.Counts.length).all fun (k : Nat) => decide (y.Counts.getD k 0 ≤ atS x (y.Offset + k))
theorem enough_iff (x y : api_Side) : enough x y = true ↔ Enough x y y.Counts.length := by
  unfold enough Enough
  rw [List.all_eq_true]
  constructor
  · intro h k hk _
    have := of_decide_eq_true (h k (List.mem_range.2 hk))
    rwa [getD_lt hk] at this
  · intro h k hk
    have hk := List.mem_range.1 hk
    rw [getD_lt hk]
    exact decide_eq_true (h k hk hk)
def subS (x y : api_Side) (i : Int) : UInt64 := atS x i - atS y i
def leftT (x y : api_Side) : api_Side := trimS ⟨x.Offset, onL (subS x y) x.Offset x.Counts.length⟩
theorem left_lp {x y : api_Side} (hx : RightS x) (hy : RightS y) :
    loop (fold_left_lp1 x y) 0 = some (if enough x y then .go () else .out (.out (⟨0, []⟩, false))) ∧ loop (ref09_less_lp1 x y) 0 = some (if enough x y then .go () else .out (.out (⟨0, []⟩, false))) := by
  have hyo := hy.off; have l2 := hy.len; have hxo := hx.off; have l1 := hx.len
  have key : ∀ (m k : Nat), k + m = y.Counts.length → Enough x y k →
      loop (fold_left_lp1 x y) (k : Int) = some (if enough x y then .go () else .out (.out (⟨0, []⟩, false))) ∧ loop (ref09_less_lp1 x y) (k : Int) = some (if enough x y then .go () else .out (.out (⟨0, []⟩, false))) := by
    intro m
    induction m with
    | zero =>
      intro k hk he
      obtain rfl : k = y.Counts.length := by omega
      rw [if_pos ((enough_iff x y).2 he)]
      constructor
      · refine loop_brk ?_
        unfold fold_left_lp1
        rw [bifFd (by omega)]
      · refine loop_brk ?_
        unfold ref09_less_lp1
        rw [bifFd (by omega)]
    | succ m ih =>
      intro k hk he
      have hlt : k < y.Counts.length := by omega
      have hb : -2000000000 ≤ y.Offset + (k : Int) ∧ y.Offset + (k : Int) ≤ 2000000000 := by
        have a1 := hy.lo (by omega); have a2 := hy.hi (by omega); omega
      have e1 : w64 (y.Offset + (k : Int)) = y.Offset + k := w64_id (by omega) (by omega)
      have A1 := At_eq (s := x) (i := y.Offset + k) (by unfold I64; omega) (by unfold I64; omega) (by omega)
      have A2 := RAt_eq hx hb
      have f1 : fold_left_lp1 x y (k : Int) = (bif decide (atS x (y.Offset + k) < y.Counts[k]) then some (.out (.out (⟨0, []⟩, false))) else some (.next ((k + 1 : Nat) : Int))) := by
        unfold fold_left_lp1
        rw [bifTd (by omega), idx_nat hlt, bind_some, e1, A1, bind_some, w64_succ (by omega)]; rfl
      have f2 : ref09_less_lp1 x y (k : Int) = (bif decide (atS x (y.Offset + k) < y.Counts[k]) then some (.out (.out (⟨0, []⟩, false))) else some (.next ((k + 1 : Nat) : Int))) := by
        unfold ref09_less_lp1
        rw [bifTd (by omega), idx_nat hlt, bind_some, e1, A2, bind_some, lett_eq, w64_succ (by omega)]; rfl
      by_cases h : atS x (y.Offset + k) < y.Counts[k]
      · have hn : ¬ enough x y = true := fun e => by
          have := (enough_iff x y).1 e k hlt hlt
          rw [UInt64.le_iff_toNat_le] at this; rw [UInt64.lt_iff_toNat_lt] at h; omega
        rw [bifTd h] at f1 f2
        rw [if_neg hn]
        exact ⟨loop_out f1, loop_out f2⟩
      · rw [bifFd h] at f1 f2
        rw [loop_next f1, loop_next f2]
        refine ih (k + 1) (by omega) fun j hj hjk => ?_
        by_cases e : j = k
        · subst e
          rw [UInt64.le_iff_toNat_le]; rw [UInt64.lt_iff_toNat_lt] at h; omega
        · exact he j hj (by omega)
  exact key y.Counts.length 0 (by omega) fun k hk h => by omega
theorem left_eq {x y : api_Side} (hx : RightS x) (hy : RightS y) : fold_left x y = some (if enough x y then (leftT x y, true) else (⟨0, []⟩, false)) := by
  have hyo := hy.off; have l2 := hy.len; have hxo := hx.off; have l1 := hx.len
  unfold fold_left
  rw [(left_lp hx hy).1]
  by_cases he : enough x y = true
  case neg => rw [if_neg he, if_neg he]; rfl
  rw [if_pos he, if_pos he, flow_go, flow_go]
  have key : ∀ (m k : Nat), k + m = x.Counts.length → loop (fold_left_lp2 x y) (onL (subS x y) x.Offset k, (k : Int)) = some (.go (onL (subS x y) x.Offset x.Counts.length)) := by
    intro m
    induction m with
    | zero =>
      intro k hk
      obtain rfl : k = x.Counts.length := by omega
      refine loop_brk ?_
      unfold fold_left_lp2
      dsimp only
      rw [bifFd (by omega)]
    | succ m ih =>
      intro k hk
      rw [← ih (k + 1) (by omega)]
      refine loop_next ?_
      have hlt : k < x.Counts.length := by omega
      have e1 : w64 (x.Offset + (k : Int)) = x.Offset + k := w64_id (by omega) (by omega)
      have A1 := At_eq (s := y) (i := x.Offset + k) (by unfold I64; omega) (by unfold I64; omega) (by omega)
      have hb : subS x y (x.Offset + k) = x.Counts[k] - atS y (x.Offset + k) := by unfold subS; rw [atS_in hlt]
      unfold fold_left_lp2
      dsimp only
      rw [bifTd (by omega), idx_nat hlt, bind_some, e1, A1, bind_some, app_ok (by rw [onL_len]; simp; omega), bind_some, onL_succ, hb, w64_succ (by omega)]
  have k0 : loop (fold_left_lp2 x y) ([], 0) = _ := key x.Counts.length 0 (by omega)
  rw [k0, flow_go, bind_some, Trim_eq (by dsimp only; omega) (by dsimp only; rw [onL_len]; omega), bind_some]; rfl
def subE (x y : api_Hist) : api_Hist × Int :=
  if y.Zero ≤ x.Zero ∧ enough x.Pos y.Pos = true ∧ enough x.Neg y.Neg = true then (⟨x.Scale, x.Zero - y.Zero, leftT x.Pos y.Pos, leftT x.Neg y.Neg⟩, 0) else (H0, 7)
theorem not_lt_u {a b : UInt64} : ¬ (a < b) ↔ b ≤ a := by rw [UInt64.lt_iff_toNat_lt, UInt64.le_iff_toNat_le]; omega
theorem Sub_lev {a b x y : api_Hist} (h : fold_Level a b = some (x, y, 0)) (gx : Good x) (gy : Good y) : fold_Sub a b = some (subE x y) := by
  unfold fold_Sub subE
  rw [h, bind_some]
  dsimp only
  rw [bifF (by rfl), left_eq gx.p gy.p, left_eq gx.n gy.n]
  by_cases h0 : x.Zero < y.Zero
  · rw [if_neg (fun e : y.Zero ≤ x.Zero ∧ enough x.Pos y.Pos = true ∧ enough x.Neg y.Neg = true => not_lt_u.2 e.1 h0)]
    cases enough x.Pos y.Pos <;> cases enough x.Neg y.Neg <;> simp [h0, H0]
  · cases h1 : enough x.Pos y.Pos <;> cases h2 : enough x.Neg y.Neg <;> simp [h0, not_lt_u.1 h0, H0]
end Go.Lg
namespace Go.Lg
attribute [local irreducible] w64 toU64 toU8 shlU shrU shlB shrB
theorem Level_good {a b : api_Hist} (ga : Good a) (gb : Good b) : ∃ x y, fold_Level a b = some (x, y, 0) ∧ ref09_Level a b = some ⟨x, y, 0⟩ ∧ Lev a b x y := by
  rcases Level_eq ga.ok gb.ok with ⟨e, _, _, _, h⟩ | h
  · rcases h with h | h
    · exact absurd ((good_iff a).2 ga) h
    · exact absurd ((good_iff b).2 gb) h
  · exact h
theorem Merge_bad {a b : api_Hist} {e : Int} (he : e ≠ 0) (h1 : fold_Level a b = some (H0, H0, e)) (h2 : ref09_Level a b = some ⟨H0, H0, e⟩) :
    fold_Merge a b = some (H0, e) ∧ ref09_Merge a b = some (H0, e) ∧ fold_Sub a b = some (H0, e) ∧ ref09_Sub a b = some (H0, e) := by
  refine ⟨?_, ?_, ?_, ?_⟩
  · unfold fold_Merge
    rw [h1, bind_some]
    dsimp only
    rw [bifT (by simp [he])]; rfl
  · unfold ref09_Merge
    rw [h2, bind_some]
    dsimp only
    rw [bifT (by simp [he])]; rfl
  · unfold fold_Sub
    rw [h1, bind_some]
    dsimp only
    rw [bifT (by simp [he])]; rfl
  · unfold ref09_Sub
    rw [h2, bind_some]
    dsimp only
    rw [bifT (by simp [he])]; rfl
theorem awake09 : law09_awake = some true := by
  have ga : Good ⟨1, 0, ⟨2, [1]⟩, ⟨0, []⟩⟩ := ⟨by decide, by decide, (right_iff _).1 (by decide), (right_iff _).1 (by decide), by decide⟩
  have gb : Good ⟨0, 0, ⟨1, [1]⟩, ⟨0, []⟩⟩ := ⟨by decide, by decide, (right_iff _).1 (by decide), (right_iff _).1 (by decide), by decide⟩
  have gr : Good ⟨0, 0, ⟨1, [2]⟩, ⟨0, []⟩⟩ := ⟨by decide, by decide, (right_iff _).1 (by decide), (right_iff _).1 (by decide), by decide⟩
  obtain ⟨x, y, l1, _, l2⟩ := Level_good ga gb
  have hx : DnH 1 ⟨1, 0, ⟨2, [1]⟩, ⟨0, []⟩⟩ ⟨0, 0, ⟨1, [1]⟩, ⟨0, []⟩⟩ := by
    refine ⟨rfl, rfl, .inr ⟨by decide, ?_⟩, .inl ⟨rfl, rfl⟩⟩
    refine Dn.of (by decide) (by decide) (by decide) fun j hj => ?_
    have : j = 0 ∨ j = 1 := by simp at hj; omega
    rcases this with rfl | rfl <;> decide
  obtain rfl := l2.dx.inj hx
  obtain rfl := l2.dy.inj (DnH.zero gb)
  have m := Merge_lev l1 l2.gx l2.gy
  have e1 : mergeE ⟨0, 0, ⟨1, [1]⟩, ⟨0, []⟩⟩ ⟨0, 0, ⟨1, [1]⟩, ⟨0, []⟩⟩ = (⟨0, 0, ⟨1, [2]⟩, ⟨0, []⟩⟩, 0) := by decide +kernel
  rw [e1] at m
  obtain ⟨x', y', k1, _, k2⟩ := Level_good gr gb
  obtain rfl := k2.dx.inj (DnH.zero gr)
  obtain rfl := k2.dy.inj (DnH.zero gb)
  have s := Sub_lev k1 k2.gx k2.gy
  have e2 : subE ⟨0, 0, ⟨1, [2]⟩, ⟨0, []⟩⟩ ⟨0, 0, ⟨1, [1]⟩, ⟨0, []⟩⟩ = (⟨0, 0, ⟨1, [1]⟩, ⟨0, []⟩⟩, 0) := by decide +kernel
  rw [e2] at s
  have a1 := At_eq (s := ⟨1, [2]⟩) (i := 1) (by unfold I64; decide) (by unfold I64; decide) (by decide)
  have a2 := At_eq (s := ⟨1, [1]⟩) (i := 1) (by unfold I64; decide) (by unfold I64; decide) (by decide)
  have b1 : atS ⟨1, [2]⟩ 1 = 2 := by decide
  have b2 : atS ⟨1, [1]⟩ 1 = 1 := by decide
  rw [b1] at a1
  rw [b2] at a2
  unfold law09_awake
  rw [m, bind_some]
  dsimp only
  rw [s, bind_some]
  dsimp only
  rw [bifT (by rfl), a1, bind_some, bind_some, bifT (by rfl), a2, bind_some, bind_some, bifT (by rfl)]
  rfl
theorem lights {a b : api_Hist} (F : Option Bool) (h : ((a.Pos.Counts.length : Int) ≤ 300 ∧ (a.Neg.Counts.length : Int) ≤ 300) → ((b.Pos.Counts.length : Int) ≤ 300 ∧ (b.Neg.Counts.length : Int) ≤ 300) → F = some true) :
    ((ref08_Light a).bind fun r62 =>
     (bif (!r62) then
     some true
     else
     (ref08_Light b).bind fun r86 =>
     some (!r86)).bind fun x71 =>
     bif x71 then
     some true
     else F) = some true := by
  rw [light_eq, light_eq, bind_some]
  by_cases la : (a.Pos.Counts.length : Int) ≤ 300 ∧ (a.Neg.Counts.length : Int) ≤ 300
  · by_cases lb : (b.Pos.Counts.length : Int) ≤ 300 ∧ (b.Neg.Counts.length : Int) ≤ 300
    · rw [bifF (by simp [la.1, la.2]), bind_some, bind_some, bifF (by simp [lb.1, lb.2]), h la lb]
    · rw [bifF (by simp [la.1, la.2]), bind_some, bind_some, bifT (by rw [← Bool.decide_and, decide_eq_false lb]; rfl)]
  · rw [bifT (by rw [← Bool.decide_and, decide_eq_false la]; rfl), bind_some]; rfl
theorem mergeE_len {x y : api_Hist} : (mergeE x y).1.Pos.Counts.length ≤ 160 ∧ (mergeE x y).1.Neg.Counts.length ≤ 160 := by
  have q : ∀ u v : api_Side, ¬ 160 < widthS u v → (mergeS u v).Counts.length ≤ 160 := by
    intro u v h
    unfold mergeS
    split
    · simp
    · dsimp only; rw [onL_len]; omega
  unfold mergeE
  split
  · exact ⟨by simp [H0], by simp [H0]⟩
  · split
    · exact ⟨by simp [H0], by simp [H0]⟩
    · rename_i h
      exact ⟨q _ _ (fun e => h (.inl e)), q _ _ (fun e => h (.inr e))⟩
theorem subE_len {x y : api_Hist} (gx : Good x) : (subE x y).1.Pos.Counts.length ≤ 160 ∧ (subE x y).1.Neg.Counts.length ≤ 160 := by
  have q : ∀ u v : api_Side, u.Counts.length ≤ 160 → (leftT u v).Counts.length ≤ 160 := by
    intro u v h
    have := trimS_len ⟨u.Offset, onL (subS u v) u.Offset u.Counts.length⟩
    simp only [onL_len] at this
    unfold leftT; omega
  unfold subE
  split
  · exact ⟨q _ _ gx.p.len, q _ _ gx.n.len⟩
  · exact ⟨by simp [H0], by simp [H0]⟩
end Go.Lg
namespace Go.Lg
attribute [local irreducible] w64 toU64 toU8 shlU shrU shlB shrB
/-- how much lies below place i -/
def cum (s : api_Side) (i : Int) : Nat := su (s.Counts.take (i - s.Offset).toNat)
theorem cum_succ (s : api_Side) (i : Int) : cum s (i + 1) = cum s i + (atS s i).toNat := atS_su s i
theorem cum_low {s : api_Side} {i : Int} (h : i ≤ s.Offset) : cum s i = 0 := by
  unfold cum; rw [show (i - s.Offset).toNat = 0 by omega]; rfl
theorem cum_high {s : api_Side} {i : Int} (h : s.Offset + s.Counts.length ≤ i) : cum s i = su s.Counts := su_all _ (by omega)
theorem cum_nil {o : Int} (i : Int) : cum ⟨o, []⟩ i = 0 := by simp [cum, su_nil]
theorem cum_ext {s t : api_Side} (hs : Tr s) (ht : Tr t) (h : ∀ i, cum s i = cum t i) : s = t :=
  hs.ext ht fun i => UInt64.toNat_inj.1 (by
    have h1 := cum_succ s i; have h2 := cum_succ t i; have h3 := h i; have h4 := h (i + 1); omega)
theorem DnS.cum {k : Nat} {s t : api_Side} (h : DnS k s t) (i : Int) : Lg.cum t i = Lg.cum s (2 ^ k * i) := by
  rcases h with ⟨a, rfl⟩ | ⟨hn, h⟩
  · rw [cum_nil]; unfold Lg.cum; rw [List.eq_nil_of_length_eq_zero a]; simp [su_nil]
  · by_cases hi : t.Offset ≤ i
    · have := h.su (i - t.Offset).toNat
      unfold Lg.cum
      rw [this, show t.Offset + ((i - t.Offset).toNat : Int) = i by omega]
    · rw [cum_low (by omega), cum_low]
      have hP := p2 k
      have hp : 2 ^ k * t.Offset ≤ s.Offset := by rw [h.o]; exact Int.mul_ediv_self_le (by omega)
      have : (2 : Int) ^ k * i ≤ 2 ^ k * t.Offset := Int.mul_le_mul_of_nonneg_left (by omega) (by omega)
      omega
theorem cum_add {s x y : api_Side} (h : ∀ i, (atS s i).toNat = (atS x i).toNat + (atS y i).toNat) (i : Int) : cum s i = cum x i + cum y i := by
  have key : ∀ n : Nat, cum s (min s.Offset (min x.Offset y.Offset) + n) = cum x (min s.Offset (min x.Offset y.Offset) + n) + cum y (min s.Offset (min x.Offset y.Offset) + n) := by
    intro n
    induction n with
    | zero => rw [cum_low (by omega), cum_low (by omega), cum_low (by omega)]
    | succ n ih =>
      have e : min s.Offset (min x.Offset y.Offset) + ((n + 1 : Nat) : Int) = min s.Offset (min x.Offset y.Offset) + n + 1 := by omega
      rw [e, cum_succ, cum_succ, cum_succ, ih, h]; omega
  by_cases hi : min s.Offset (min x.Offset y.Offset) ≤ i
  · have := key (i - min s.Offset (min x.Offset y.Offset)).toNat
    rwa [show min s.Offset (min x.Offset y.Offset) + ((i - min s.Offset (min x.Offset y.Offset)).toNat : Int) = i by omega] at this
  · rw [cum_low (by omega), cum_low (by omega), cum_low (by omega)]
theorem cum_merge {x y : api_Side} (hx : RightS x) (hy : RightS y) (hs : su x.Counts + su y.Counts < 18446744073709551616) (i : Int) : cum (mergeS x y) i = cum x i + cum y i :=
  cum_add (fun i => by rw [merge_at (cov hx hy), add_nat hs]) i
/-- a hull is no wider than what holds both -/
theorem width_le {x y z : api_Side} (hx : RightS x) (hy : RightS y) (h : ∀ i, cum x (i + 1) + cum y (i + 1) - (cum x i + cum y i) ≤ cum z (i + 1) - cum z i) : widthS x y ≤ z.Counts.length := by
  have hat : ∀ i, (atS x i ≠ 0 ∨ atS y i ≠ 0) → z.Offset ≤ i ∧ i < z.Offset + z.Counts.length := by
    intro i hi
    have h1 := h i
    rw [cum_succ, cum_succ, cum_succ] at h1
    have : 1 ≤ (atS x i).toNat + (atS y i).toNat := by
      rcases hi with e | e
      · have := u_ne e; omega
      · have := u_ne e; omega
    have hz : atS z i ≠ 0 := ne_u (by omega)
    constructor
    · exact Int.not_lt.1 fun hh => hz (atS_out (.inl hh))
    · exact Int.not_le.1 fun hh => hz (atS_out (.inr hh))
  have c := cov hx hy
  have cle := c.le
  unfold widthS
  by_cases e : loS x y = hiS x y
  · omega
  · have hlo : z.Offset ≤ loS x y := by
      rcases c.lo with q | ⟨q1, q2⟩ | ⟨q1, q2⟩
      · omega
      · have := hat x.Offset (.inl (hx.tr.f q1)); omega
      · have := hat y.Offset (.inr (hy.tr.f q1)); omega
    have hhi : hiS x y ≤ z.Offset + z.Counts.length := by
      rcases c.hi with q | ⟨q1, q2⟩ | ⟨q1, q2⟩
      · omega
      · have := hat _ (.inl (hx.tr.e q1)); omega
      · have := hat _ (.inr (hy.tr.e q1)); omega
    omega
theorem lev_same {x y : api_Hist} (gx : Good x) (gy : Good y) (hs : x.Scale = y.Scale) : fold_Level x y = some (x, y, 0) ∧ ref09_Level x y = some ⟨x, y, 0⟩ := by
  obtain ⟨x', y', h1, h2, l⟩ := Level_good gx gy
  have e1 : (x.Scale - min x.Scale y.Scale).toNat = 0 := by omega
  have e2 : (y.Scale - min x.Scale y.Scale).toNat = 0 := by omega
  have dx := l.dx
  have dy := l.dy
  rw [e1] at dx
  rw [e2] at dy
  have := dx.inj (DnH.zero gx)
  have := dy.inj (DnH.zero gy)
  subst_vars
  exact ⟨h1, h2⟩
theorem sumH_tot {x y : api_Hist} (gx : Good x) (gy : Good y) (h : tot x + tot y < 18446744073709551616) : tot (sumH x y) = tot x + tot y := by
  have h1 := gx.sp; have h2 := gx.sn
  unfold tot at *
  unfold sumH
  dsimp only
  rw [merge_su gx.p gy.p (by omega), merge_su gx.n gy.n (by omega), UInt64.toNat_add, Nat.mod_eq_of_lt (by omega)]
  omega
theorem sumH_good {x y : api_Hist} (gx : Good x) (gy : Good y) (h : tot x + tot y < 18446744073709551616) (hp : widthS x.Pos y.Pos ≤ 160) (hn : widthS x.Neg y.Neg ≤ 160) : Good (sumH x y) := by
  have ht := sumH_tot gx gy h
  refine ⟨gx.s1, gx.s2, merge_right gx.p gy.p ?_ hp, merge_right gx.n gy.n ?_ hn, by rw [ht]; exact h⟩
  · unfold tot at h; omega
  · unfold tot at h; omega
/-! ### what some histograms come to, at a scale -/
def sumN (f : api_Hist → Nat) (l : List api_Hist) : Nat := (l.map f).sum
theorem sumN_app (f : api_Hist → Nat) (l m : List api_Hist) : sumN f (l ++ m) = sumN f l + sumN f m := by simp [sumN]
theorem sumN_congr {f g : api_Hist → Nat} {l : List api_Hist} (h : ∀ x ∈ l, f x = g x) : sumN f l = sumN g l := by
  unfold sumN; rw [List.map_congr_left h]
theorem sumN_add (f g : api_Hist → Nat) (l : List api_Hist) : sumN (fun x => f x + g x) l = sumN f l + sumN g l := by
  induction l with
  | nil => rfl
  | cons x l ih => simp only [sumN, List.map_cons, List.sum_cons] at *; omega
theorem sumN_mono {f g : api_Hist → Nat} {l : List api_Hist} (h : ∀ x ∈ l, f x ≤ g x) : sumN f l ≤ sumN g l := by
  induction l with
  | nil => exact Nat.le_refl _
  | cons x l ih =>
    have h1 := h x (by simp)
    have h2 := ih fun y hy => h y (by simp [hy])
    simp only [sumN, List.map_cons, List.sum_cons] at *; omega
theorem cum_mono {s : api_Side} {i j : Int} (h : i ≤ j) : cum s i ≤ cum s j := su_take_mono _ (by omega)
def fac (x z : api_Hist) (i : Int) : Int := 2 ^ (x.Scale - z.Scale).toNat * i
theorem fac_mono {x z : api_Hist} (i : Int) : fac x z i ≤ fac x z (i + 1) := by
  unfold fac
  have h := p2 (x.Scale - z.Scale).toNat
  rw [Int.mul_add]; omega
structure Sums (l : List api_Hist) (z : api_Hist) : Prop where
  good : Good z
  all : ∀ x ∈ l, Good x ∧ z.Scale ≤ x.Scale
  zero : z.Zero.toNat = sumN (fun x => x.Zero.toNat) l
  pos : ∀ i, cum z.Pos i = sumN (fun x => cum x.Pos (fac x z i)) l
  neg : ∀ i, cum z.Neg i = sumN (fun x => cum x.Neg (fac x z i)) l
theorem fac_eq {x z z' : api_Hist} (h : z.Scale = z'.Scale) (i : Int) : fac x z i = fac x z' i := by unfold fac; rw [h]
theorem Sums.inj {l : List api_Hist} {z z' : api_Hist} (a : Sums l z) (b : Sums l z') (h : z.Scale = z'.Scale) : z = z' := by
  have hz : z.Zero = z'.Zero := UInt64.toNat_inj.1 (by rw [a.zero, b.zero])
  have hp : z.Pos = z'.Pos := cum_ext a.good.p.tr b.good.p.tr fun i => by
    rw [a.pos, b.pos]; exact sumN_congr fun x _ => by rw [fac_eq h]
  have hn : z.Neg = z'.Neg := cum_ext a.good.n.tr b.good.n.tr fun i => by
    rw [a.neg, b.neg]; exact sumN_congr fun x _ => by rw [fac_eq h]
  cases z; cases z'
  simp only at h hz hp hn
  subst h hz hp hn; rfl
theorem Sums.one {x : api_Hist} (g : Good x) : Sums [x] x := by
  refine ⟨g, fun y hy => ?_, by simp [sumN], fun i => ?_, fun i => ?_⟩
  · rw [List.mem_singleton.1 hy]; exact ⟨g, Int.le_refl _⟩
  · simp [sumN, fac]
  · simp [sumN, fac]
def Hs (S : Int) : api_Hist := ⟨S, 0, ⟨0, []⟩, ⟨0, []⟩⟩
theorem Hs_good {S : Int} (h : -10 ≤ S) (h' : S ≤ 20) : Good (Hs S) :=
  ⟨h, h', H0_good.p, H0_good.n, H0_good.t⟩
theorem Sums.nil {S : Int} (h : -10 ≤ S) (h' : S ≤ 20) : Sums [] (Hs S) :=
  ⟨Hs_good h h', fun _ hy => absurd hy List.not_mem_nil, rfl, fun i => cum_nil i, fun i => cum_nil i⟩
theorem Sums.down {l : List api_Hist} {z z' : api_Hist} {k : Nat} (h : Sums l z) (d : DnH k z z') (hk : (k : Int) ≤ z.Scale + 10) : Sums l z' := by
  have hs := d.s
  have e : ∀ x ∈ l, ∀ i, fac x z (2 ^ k * i) = fac x z' i := by
    intro x hx i
    have := (h.all x hx).2
    unfold fac
    rw [show (x.Scale - z'.Scale).toNat = (x.Scale - z.Scale).toNat + k by omega, Int.pow_add, Int.mul_assoc]
  refine ⟨d.good h.good hk, fun x hx => ⟨(h.all x hx).1, by have := (h.all x hx).2; omega⟩, by rw [d.z, h.zero], fun i => ?_, fun i => ?_⟩
  · rw [d.p.cum, h.pos]; exact sumN_congr fun x hx => by rw [e x hx]
  · rw [d.n.cum, h.neg]; exact sumN_congr fun x hx => by rw [e x hx]
theorem Sums.merge {l m : List api_Hist} {a b : api_Hist} (h : Sums l a) (h' : Sums m b) (hs : a.Scale = b.Scale) (ht : tot a + tot b < 18446744073709551616) (hp : widthS a.Pos b.Pos ≤ 160) (hn : widthS a.Neg b.Neg ≤ 160) : Sums (l ++ m) (sumH a b) := by
  have hS : (sumH a b).Scale = a.Scale := rfl
  have ga := h.good; have gb := h'.good
  refine ⟨sumH_good ga gb ht hp hn, fun x hx => ?_, ?_, fun i => ?_, fun i => ?_⟩
  · rcases List.mem_append.1 hx with hx | hx
    · exact h.all x hx
    · have := h'.all x hx; exact ⟨this.1, by rw [hS, hs]; exact this.2⟩
  · show (a.Zero + b.Zero).toNat = _
    unfold tot at ht
    rw [UInt64.toNat_add, Nat.mod_eq_of_lt (by omega), h.zero, h'.zero, sumN_app]
  · show cum (mergeS a.Pos b.Pos) i = _
    rw [cum_merge ga.p gb.p (by unfold tot at ht; omega), h.pos, h'.pos, sumN_app]
    congr 1
    exact sumN_congr fun x _ => by rw [fac_eq (x := x) (z := b) (z' := sumH a b) (by rw [hS, hs])]
  · show cum (mergeS a.Neg b.Neg) i = _
    rw [cum_merge ga.n gb.n (by unfold tot at ht; omega), h.neg, h'.neg, sumN_app]
    congr 1
    exact sumN_congr fun x _ => by rw [fac_eq (x := x) (z := b) (z' := sumH a b) (by rw [hS, hs])]
theorem fac_far {x z : api_Hist} : (2147483648 : Int) ≤ fac x z 2147483648 := by
  unfold fac
  have h := p2 (x.Scale - z.Scale).toNat
  have := Int.mul_le_mul_of_nonneg_right (show (1 : Int) ≤ 2 ^ (x.Scale - z.Scale).toNat by omega) (show (0 : Int) ≤ 2147483648 by omega)
  omega
theorem cum_far {s : api_Side} (h : RightS s) {i : Int} (hi : 2147483648 ≤ i) : cum s i = su s.Counts := by
  have := h.off; have := h.z; have := h.hi
  exact cum_high (by omega)
theorem Sums.tot {l : List api_Hist} {z : api_Hist} (h : Sums l z) : Lg.tot z = sumN Lg.tot l := by
  have hp : su z.Pos.Counts = sumN (fun x => su x.Pos.Counts) l := by
    rw [← cum_far h.good.p (i := 2147483648) (by omega), h.pos]
    exact sumN_congr fun x hx => cum_far (h.all x hx).1.p fac_far
  have hn : su z.Neg.Counts = sumN (fun x => su x.Neg.Counts) l := by
    rw [← cum_far h.good.n (i := 2147483648) (by omega), h.neg]
    exact sumN_congr fun x hx => cum_far (h.all x hx).1.n fac_far
  have e : sumN Lg.tot l = sumN (fun x => x.Zero.toNat) l + sumN (fun x => su x.Pos.Counts) l + sumN (fun x => su x.Neg.Counts) l := by
    rw [← sumN_add, ← sumN_add]; rfl
  unfold Lg.tot at *
  rw [e, h.zero, hp, hn]
/-- one more, of those that z is the sum of -/
theorem Sums.step {a b : List api_Hist} {x z h : api_Hist} (hz : Sums (a ++ x :: b) z) (ha : Sums a h) (hs : h.Scale = z.Scale) :
    ∃ x' h', hist_Down x (w64 (x.Scale - z.Scale)) = some (x', 0) ∧ fold_Merge h x' = some (h', 0) ∧ Sums (a ++ [x]) h' ∧ h'.Scale = z.Scale := by
  have hx := hz.all x (by simp)
  have g := hx.1
  have z1 := hz.good.s1
  have g2 := g.s2
  obtain ⟨x', d1, d2⟩ := Down_ok g (k := (x.Scale - z.Scale).toNat) (by omega)
  have e1 : w64 (x.Scale - z.Scale) = ((x.Scale - z.Scale).toNat : Int) := by rw [w64_id] <;> omega
  have s' := (Sums.one g).down d2 (by omega)
  have hs' : x'.Scale = z.Scale := by have := d2.s; omega
  have ht : Lg.tot h + Lg.tot x' < 18446744073709551616 := by
    have t1 := hz.good.t
    rw [hz.tot, show a ++ x :: b = (a ++ [x]) ++ b by simp, sumN_app, sumN_app, ← ha.tot, ← s'.tot] at t1
    omega
  have cp : ∀ i, cum z.Pos i = cum h.Pos i + cum x'.Pos i + sumN (fun y => cum y.Pos (fac y z i)) b := by
    intro i
    rw [hz.pos, show a ++ x :: b = (a ++ [x]) ++ b by simp, sumN_app, sumN_app, ha.pos, s'.pos]
    congr 2
    · exact sumN_congr fun y _ => by rw [fac_eq (x := y) (z := h) (z' := z) hs]
    · exact sumN_congr fun y _ => by rw [fac_eq (x := y) (z := x') (z' := z) hs']
  have cn : ∀ i, cum z.Neg i = cum h.Neg i + cum x'.Neg i + sumN (fun y => cum y.Neg (fac y z i)) b := by
    intro i
    rw [hz.neg, show a ++ x :: b = (a ++ [x]) ++ b by simp, sumN_app, sumN_app, ha.neg, s'.neg]
    congr 2
    · exact sumN_congr fun y _ => by rw [fac_eq (x := y) (z := h) (z' := z) hs]
    · exact sumN_congr fun y _ => by rw [fac_eq (x := y) (z := x') (z' := z) hs']
  have wp : widthS h.Pos x'.Pos ≤ 160 := by
    refine Nat.le_trans (width_le (z := z.Pos) ha.good.p s'.good.p fun i => ?_) hz.good.p.len
    have h1 := cp i; have h2 := cp (i + 1)
    have h3 : sumN (fun y => cum y.Pos (fac y z i)) b ≤ sumN (fun y => cum y.Pos (fac y z (i + 1))) b := sumN_mono fun y _ => cum_mono (fac_mono i)
    omega
  have wn : widthS h.Neg x'.Neg ≤ 160 := by
    refine Nat.le_trans (width_le (z := z.Neg) ha.good.n s'.good.n fun i => ?_) hz.good.n.len
    have h1 := cn i; have h2 := cn (i + 1)
    have h3 : sumN (fun y => cum y.Neg (fac y z i)) b ≤ sumN (fun y => cum y.Neg (fac y z (i + 1))) b := sumN_mono fun y _ => cum_mono (fac_mono i)
    omega
  refine ⟨x', sumH h x', by rw [e1, d1], ?_, ha.merge s' (by omega) ht wp wn, hs⟩
  rw [Merge_lev (lev_same ha.good s'.good (by omega)).1 ha.good s'.good]
  unfold mergeE
  rw [if_neg (by omega), if_neg (by omega)]
/-! ### what is taken away -/
theorem enough_at {x y : api_Side} (he : enough x y = true) (i : Int) : (atS y i).toNat ≤ (atS x i).toNat := by
  by_cases h : y.Offset ≤ i ∧ i < y.Offset + y.Counts.length
  · obtain ⟨k, rfl⟩ : ∃ k : Nat, i = y.Offset + k := ⟨(i - y.Offset).toNat, by omega⟩
    have hk : k < y.Counts.length := by omega
    have := (enough_iff x y).1 he k hk hk
    rw [atS_in hk]
    exact UInt64.le_iff_toNat_le.1 this
  · rw [atS_out (by omega)]; exact Nat.zero_le _
theorem left_at {x y : api_Side} (he : enough x y = true) (i : Int) : (atS x i).toNat = (atS (leftT x y) i).toNat + (atS y i).toNat := by
  have e : atS (leftT x y) i = subS x y i := by
    unfold leftT
    rw [trim_at]
    refine onL_at (fun j hj => ?_) i
    have h0 : atS x j = 0 := atS_out hj
    have h1 := enough_at he j
    have z : (0 : UInt64).toNat = 0 := rfl
    rw [h0, z] at h1
    have h3 : atS y j = 0 := UInt64.toNat_inj.1 (by omega)
    unfold subS
    rw [h0, h3]; rfl
  rw [e]
  unfold subS
  have h1 := enough_at he i
  rw [UInt64.toNat_sub_of_le _ _ (UInt64.le_iff_toNat_le.2 h1)]
  omega
theorem left_cum {x y : api_Side} (he : enough x y = true) (i : Int) : cum x i = cum (leftT x y) i + cum y i := cum_add (left_at he) i
theorem left_right {x y : api_Side} (hx : RightS x) (he : enough x y = true) : RightS (leftT x y) := by
  have tr : Tr (leftT x y) := trim_tr _
  have hl : (leftT x y).Counts.length ≤ x.Counts.length := by
    have := trimS_len ⟨x.Offset, onL (subS x y) x.Offset x.Counts.length⟩
    dsimp only at this; rw [onL_len] at this; exact this
  have hin : ∀ i, atS (leftT x y) i ≠ 0 → x.Offset ≤ i ∧ i < x.Offset + x.Counts.length := by
    intro i hi
    have h1 := left_at (x := x) he i
    have h2 := u_ne hi
    have hz : atS x i ≠ 0 := ne_u (by omega)
    constructor
    · exact Int.not_lt.1 fun hh => hz (atS_out (.inl hh))
    · exact Int.not_le.1 fun hh => hz (atS_out (.inr hh))
  have hb : 0 < (leftT x y).Counts.length → -1073741824 ≤ (leftT x y).Offset ∧ (leftT x y).Offset + (leftT x y).Counts.length - 1 ≤ 1073741824 := by
    intro hp
    have a := hin _ (tr.f hp)
    have b := hin _ (tr.e hp)
    have := hx.lo (by omega); have := hx.hi (by omega)
    omega
  refine ⟨by have := hx.len; omega, tr.z, fun hp => ?_, fun hp => ?_, fun hp => (hb hp).1, fun hp => (hb hp).2⟩
  · have := tr.f hp
    have e := atS_in (s := leftT x y) (k := 0) hp
    rw [show (leftT x y).Offset + ((0 : Nat) : Int) = (leftT x y).Offset by omega] at e
    rw [← e]; exact this
  · have := tr.e hp
    have e := atS_in (s := leftT x y) (k := (leftT x y).Counts.length - 1) (by omega)
    rw [show (leftT x y).Offset + (((leftT x y).Counts.length - 1 : Nat) : Int) = (leftT x y).Offset + (leftT x y).Counts.length - 1 by omega] at e
    rw [← e]; exact this
theorem left_su {x y : api_Side} (hx : RightS x) (hy : RightS y) (he : enough x y = true) : su x.Counts = su (leftT x y).Counts + su y.Counts := by
  have := left_cum he 2147483648
  rwa [cum_far hx (by omega), cum_far hy (by omega), cum_far (left_right hx he) (by omega)] at this
/-- what is taken away from the sum of some is one more of them -/
theorem Sums.sub {l : List api_Hist} {x y : api_Hist} (h : Sums l y) (gx : Good x) (hs : x.Scale = y.Scale) (he : (subE x y).2 = 0) :
    Good (subE x y).1 ∧ (subE x y).1.Scale = x.Scale ∧ (subE x y).1.Pos.Counts.length ≤ x.Pos.Counts.length ∧ (subE x y).1.Neg.Counts.length ≤ x.Neg.Counts.length ∧ Sums (l ++ [(subE x y).1]) x := by
  unfold subE at he ⊢
  split at he
  case isFalse => exact absurd he (by decide)
  rename_i hc
  obtain ⟨hz, hp, hn⟩ := hc
  rw [if_pos ⟨hz, hp, hn⟩]
  have gy := h.good
  have hz' := UInt64.le_iff_toNat_le.1 hz
  have ez : (x.Zero - y.Zero).toNat = x.Zero.toNat - y.Zero.toNat := UInt64.toNat_sub_of_le _ _ hz
  have sp := left_su gx.p gy.p hp
  have sn := left_su gx.n gy.n hn
  have g : Good ⟨x.Scale, x.Zero - y.Zero, leftT x.Pos y.Pos, leftT x.Neg y.Neg⟩ := by
    refine ⟨gx.s1, gx.s2, left_right gx.p hp, left_right gx.n hn, ?_⟩
    have := gx.t
    unfold Lg.tot at *
    show (x.Zero - y.Zero).toNat + su (leftT x.Pos y.Pos).Counts + su (leftT x.Neg y.Neg).Counts < _
    omega
  have len : ∀ u v : api_Side, (leftT u v).Counts.length ≤ u.Counts.length := by
    intro u v
    have := trimS_len ⟨u.Offset, onL (subS u v) u.Offset u.Counts.length⟩
    dsimp only at this; rw [onL_len] at this; exact this
  refine ⟨g, rfl, len _ _, len _ _, gx, fun w hw => ?_, ?_, fun i => ?_, fun i => ?_⟩
  · rcases List.mem_append.1 hw with hw | hw
    · have := h.all w hw; exact ⟨this.1, by omega⟩
    · rw [List.mem_singleton.1 hw]; exact ⟨g, Int.le_refl _⟩
  · rw [sumN_app, ← h.zero]
    simp only [sumN, List.map_cons, List.map_nil, List.sum_cons, List.sum_nil]
    omega
  · rw [sumN_app, left_cum hp, h.pos i]
    have e : sumN (fun w => cum w.Pos (fac w y i)) l = sumN (fun w => cum w.Pos (fac w x i)) l := sumN_congr fun w _ => by rw [fac_eq (x := w) hs.symm]
    rw [e]
    simp [sumN, fac]; omega
  · rw [sumN_app, left_cum hn, h.neg i]
    have e : sumN (fun w => cum w.Neg (fac w y i)) l = sumN (fun w => cum w.Neg (fac w x i)) l := sumN_congr fun w _ => by rw [fac_eq (x := w) hs.symm]
    rw [e]
    simp [sumN, fac]; omega
end Go.Lg
namespace Go.Lg
noncomputable def law09_FoldKeeps_lp2 : (List UInt64 × Int) → Option (Rnd (List UInt64 × Int) (List UInt64) (List UInt64)) := fun (c1744, i1747) =>
 bif decide (i1747 < (c1744.length : Int)) then
 (idx c1744 i1747).bind fun e1786 =>
 (idx c1744 i1747).bind fun e1797 =>
 lett ((e1786 + 1)) fun t1807 =>
 (setI c1744 i1747 t1807).bind fun xs1808 =>
 lett (w64 (i1747 + 1)) fun i1812 =>
 some (.next (xs1808, i1812))
 else
 some (.brk c1744)
noncomputable def law09_FoldKeeps_lp3 : (List UInt64 × Int) → Option (Rnd (List UInt64 × Int) (List UInt64) (List UInt64)) := fun (c1827, i1830) =>
 bif decide (i1830 < (c1827.length : Int)) then
 (idx c1827 i1830).bind fun e1871 =>
 (idx c1827 i1830).bind fun e1882 =>
 lett ((e1871 + 1)) fun t1892 =>
 (setI c1827 i1830 t1892).bind fun xs1893 =>
 lett (w64 (i1830 + 1)) fun i1897 =>
 some (.next (xs1893, i1897))
 else
 some (.brk c1827)
noncomputable def law09_FoldKeeps_lp4 : (List UInt64 × Int) → Option (Rnd (List UInt64 × Int) (List UInt64) (List UInt64)) := fun (c1924, i1927) =>
 bif decide (i1927 < (c1924.length : Int)) then
 (idx c1924 i1927).bind fun e1969 =>
 (idx c1924 i1927).bind fun e1980 =>
 lett ((e1969 + 1)) fun t1990 =>
 (setI c1924 i1927 t1990).bind fun xs1991 =>
 lett (w64 (i1927 + 1)) fun i1995 =>
 some (.next (xs1991, i1995))
 else
 some (.brk c1924)
noncomputable def law09_FoldKeeps_lp5 : (List UInt64 × Int) → Option (Rnd (List UInt64 × Int) (List UInt64) (List UInt64)) := fun (c2010, i2013) =>
 bif decide (i2013 < (c2010.length : Int)) then
 (idx c2010 i2013).bind fun e2057 =>
 (idx c2010 i2013).bind fun e2068 =>
 lett ((e2057 + 1)) fun t2078 =>
 (setI c2010 i2013 t2078).bind fun xs2079 =>
 lett (w64 (i2013 + 1)) fun i2083 =>
 some (.next (xs2079, i2083))
 else
 some (.brk c2010)
noncomputable def law09_FoldKeeps_lp6 : (List UInt64 × Int) → Option (Rnd (List UInt64 × Int) (List UInt64) (List UInt64)) := fun (c2110, i2113) =>
 bif decide (i2113 < (c2110.length : Int)) then
 (idx c2110 i2113).bind fun e2156 =>
 (idx c2110 i2113).bind fun e2167 =>
 lett ((e2156 + 1)) fun t2177 =>
 (setI c2110 i2113 t2177).bind fun xs2178 =>
 lett (w64 (i2113 + 1)) fun i2182 =>
 some (.next (xs2178, i2182))
 else
 some (.brk c2110)
noncomputable def law09_FoldKeeps_lp7 : (List UInt64 × Int) → Option (Rnd (List UInt64 × Int) (List UInt64) (List UInt64)) := fun (c2197, i2200) =>
 bif decide (i2200 < (c2197.length : Int)) then
 (idx c2197 i2200).bind fun e2245 =>
 (idx c2197 i2200).bind fun e2256 =>
 lett ((e2245 + 1)) fun t2266 =>
 (setI c2197 i2200 t2266).bind fun xs2267 =>
 lett (w64 (i2200 + 1)) fun i2271 =>
 some (.next (xs2267, i2271))
 else
 some (.brk c2197)
noncomputable def law09_FoldKeeps_lp8 : (List UInt64 × Int) → Option (Rnd (List UInt64 × Int) (List UInt64) (List UInt64)) := fun (c2298, i2301) =>
 bif decide (i2301 < (c2298.length : Int)) then
 (idx c2298 i2301).bind fun e2345 =>
 (idx c2298 i2301).bind fun e2356 =>
 lett ((e2345 + 1)) fun t2366 =>
 (setI c2298 i2301 t2366).bind fun xs2367 =>
 lett (w64 (i2301 + 1)) fun i2371 =>
 some (.next (xs2367, i2371))
 else
 some (.brk c2298)
noncomputable def law09_FoldKeeps_lp9 : (List UInt64 × Int) → Option (Rnd (List UInt64 × Int) (List UInt64) (List UInt64)) := fun (c2386, i2389) =>
 bif decide (i2389 < (c2386.length : Int)) then
 (idx c2386 i2389).bind fun e2435 =>
 (idx c2386 i2389).bind fun e2446 =>
 lett ((e2435 + 1)) fun t2456 =>
 (setI c2386 i2389 t2456).bind fun xs2457 =>
 lett (w64 (i2389 + 1)) fun i2461 =>
 some (.next (xs2457, i2461))
 else
 some (.brk c2386)
noncomputable def law09_FoldKeeps_lp10 : (List UInt64 × Int) → Option (Rnd (List UInt64 × Int) (List UInt64) (List UInt64)) := fun (c2488, i2491) =>
 bif decide (i2491 < (c2488.length : Int)) then
 (idx c2488 i2491).bind fun e2535 =>
 (idx c2488 i2491).bind fun e2546 =>
 lett ((e2535 + 1)) fun t2556 =>
 (setI c2488 i2491 t2556).bind fun xs2557 =>
 lett (w64 (i2491 + 1)) fun i2561 =>
 some (.next (xs2557, i2561))
 else
 some (.brk c2488)
noncomputable def law09_FoldKeeps_lp11 : (List UInt64 × Int) → Option (Rnd (List UInt64 × Int) (List UInt64) (List UInt64)) := fun (c2576, i2579) =>
 bif decide (i2579 < (c2576.length : Int)) then
 (idx c2576 i2579).bind fun e2625 =>
 (idx c2576 i2579).bind fun e2636 =>
 lett ((e2625 + 1)) fun t2646 =>
 (setI c2576 i2579 t2646).bind fun xs2647 =>
 lett (w64 (i2579 + 1)) fun i2651 =>
 some (.next (xs2647, i2651))
 else
 some (.brk c2576)
noncomputable def law09_FoldKeeps_k1 (a0 : api_Hist) (a1 : api_Hist) : (Int × UInt64 × Int × List UInt64 × Int × List UInt64 × Int × UInt64 × Int × List UInt64 × Int × List UInt64) → Option Bool := fun (x118, x119, x120, x121, x124, x125, x128, x129, x130, x131, x134, x135) =>
 (fold_Level a0 a1).bind fun (r1446, r1447, r1448) =>
 (fold_Merge a0 a1).bind fun (r1549, r1550) =>
 (fold_Sub a0 a1).bind fun (r1602, r1603) =>
 (fold_Sum [a0]).bind fun (r1651, r1652) =>
 ((flow (loop (law09_FoldKeeps_lp2) (r1446.Pos.Counts, 0)) fun c1751 =>
 some c1751 : Option (List UInt64)).bind fun c1736 =>
 (flow (loop (law09_FoldKeeps_lp3) (r1446.Neg.Counts, 0)) fun c1834 =>
 some c1834 : Option (List UInt64)).bind fun c1819 =>
 (flow (loop (law09_FoldKeeps_lp4) (r1447.Pos.Counts, 0)) fun c1931 =>
 some c1931 : Option (List UInt64)).bind fun c1916 =>
 (flow (loop (law09_FoldKeeps_lp5) (r1447.Neg.Counts, 0)) fun c2017 =>
 some c2017 : Option (List UInt64)).bind fun c2002 =>
 (flow (loop (law09_FoldKeeps_lp6) (r1549.Pos.Counts, 0)) fun c2117 =>
 some c2117 : Option (List UInt64)).bind fun c2102 =>
 (flow (loop (law09_FoldKeeps_lp7) (r1549.Neg.Counts, 0)) fun c2204 =>
 some c2204 : Option (List UInt64)).bind fun c2189 =>
 (flow (loop (law09_FoldKeeps_lp8) (r1602.Pos.Counts, 0)) fun c2305 =>
 some c2305 : Option (List UInt64)).bind fun c2290 =>
 (flow (loop (law09_FoldKeeps_lp9) (r1602.Neg.Counts, 0)) fun c2393 =>
 some c2393 : Option (List UInt64)).bind fun c2378 =>
 (flow (loop (law09_FoldKeeps_lp10) (r1651.Pos.Counts, 0)) fun c2495 =>
 some c2495 : Option (List UInt64)).bind fun c2480 =>
 (flow (loop (law09_FoldKeeps_lp11) (r1651.Neg.Counts, 0)) fun c2583 =>
 some c2583 : Option (List UInt64)).bind fun c2568 =>
 some ()).bind fun (_ : Unit) =>
 (ref08_Same a0 (api_Hist.mk x118 x119 (api_Side.mk x120 x121) (api_Side.mk x124 x125))).bind fun r2732 =>
 (bif r2732 then
 (ref08_Same a1 (api_Hist.mk x128 x129 (api_Side.mk x130 x131) (api_Side.mk x134 x135))).bind fun r2834 =>
 some r2834
 else
 some false : Option Bool).bind fun x2741 =>
 some x2741
noncomputable def law09_FoldKeeps (a0 : api_Hist) (a1 : api_Hist) : Option Bool :=
 (law09_awake).bind fun r43 =>
 bif (!r43) then
 some false
 else
 (ref08_Light a0).bind fun r62 =>
 (bif (!r62) then
 some true
 else
 (ref08_Light a1).bind fun r86 =>
 some (!r86) : Option Bool).bind fun x71 =>
 bif x71 then
 some true
 else
 (hist_Clone a0).bind fun r150 =>
 (hist_Clone a1).bind fun r178 =>
 law09_FoldKeeps_k1 a0 a1 (r150.Scale, r150.Zero, r150.Pos.Offset, r150.Pos.Counts, r150.Neg.Offset, r150.Neg.Counts, r178.Scale, r178.Zero, r178.Pos.Offset, r178.Pos.Counts, r178.Neg.Offset, r178.Neg.Counts)
end Go.Lg
namespace Go.Lg
attribute [local irreducible] w64 toU64 toU8 shlU shrU shlB shrB
theorem inc_loop (l : List UInt64) (hl : l.length ≤ 1000000) : ∃ m, loop law09_FoldKeeps_lp2 (l, 0) = some (.go m) := by
  have L := loop_up (f := law09_FoldKeeps_lp2) (fun i st => ∃ m, m.length = l.length ∧ st = (m, (i : Int))) l.length (fun fl => ∃ m, fl = .go m) ?_ ?_ l.length 0 (l, 0) (by omega) ⟨l, rfl, rfl⟩
  · obtain ⟨fl, h1, m, rfl⟩ := L
    exact ⟨m, h1⟩
  · rintro i st hi ⟨m, hm, rfl⟩
    left
    unfold law09_FoldKeeps_lp2
    dsimp only
    rw [bifTd (by omega), idx_nat (by omega), bind_some, bind_some, lett_eq, setI_nat (by omega), bind_some, lett_eq, w64_succ (by omega)]
    exact ⟨_, rfl, _, by simp [hm], rfl⟩
  · rintro st ⟨m, hm, rfl⟩
    left
    unfold law09_FoldKeeps_lp2
    dsimp only
    rw [bifFd (by omega)]
    exact ⟨_, rfl, _, rfl⟩
theorem merge_any {a b : api_Hist} (oa : OkH a) (ob : OkH b) : ∃ x e z g, fold_Merge a b = some (x, e) ∧ fold_Sub a b = some (z, g) ∧ x.Pos.Counts.length ≤ 160 ∧ x.Neg.Counts.length ≤ 160 ∧ z.Pos.Counts.length ≤ 160 ∧ z.Neg.Counts.length ≤ 160 := by
  rcases Level_eq oa ob with ⟨e, he, h1, h2, _⟩ | ⟨x, y, h1, h2, l⟩
  · obtain ⟨m1, m2, m3, m4⟩ := Merge_bad he h1 h2
    exact ⟨H0, e, H0, e, m1, m3, by simp [H0], by simp [H0], by simp [H0], by simp [H0]⟩
  · have q1 := mergeE_len (x := x) (y := y)
    have q2 := subE_len (y := y) l.gx
    exact ⟨(mergeE x y).1, (mergeE x y).2, (subE x y).1, (subE x y).2, Merge_lev h1 l.gx l.gy, Sub_lev h1 l.gx l.gy, q1.1, q1.2, q2.1, q2.2⟩
theorem level_any {a b : api_Hist} (oa : OkH a) (ob : OkH b) : ∃ x y e, fold_Level a b = some (x, y, e) ∧ x.Pos.Counts.length ≤ 160 ∧ x.Neg.Counts.length ≤ 160 ∧ y.Pos.Counts.length ≤ 160 ∧ y.Neg.Counts.length ≤ 160 := by
  rcases Level_eq oa ob with ⟨e, he, h1, h2, _⟩ | ⟨x, y, h1, h2, l⟩
  · exact ⟨H0, H0, e, h1, by simp [H0], by simp [H0], by simp [H0], by simp [H0]⟩
  · exact ⟨x, y, 0, h1, l.gx.p.len, l.gx.n.len, l.gy.p.len, l.gy.n.len⟩
theorem sum_any {a : api_Hist} (oa : OkH a) : ∃ x e, fold_Sum [a] = some (x, e) ∧ x.Pos.Counts.length ≤ 160 ∧ x.Neg.Counts.length ≤ 160 := by
  obtain ⟨x, e, z, g, h1, _, h2, h3, _⟩ := merge_any (Hs_good (S := 20) (by omega) (by omega)).ok oa
  have h1' : fold_Merge (api_Hist.mk 20 0 (api_Side.mk 0 []) (api_Side.mk 0 [])) a = some (x, e) := h1
  unfold fold_Sum
  by_cases he : e = 0
  · subst he
    rw [loop_next (s' := (x.Scale, x.Zero, x.Pos.Offset, x.Pos.Counts, x.Neg.Offset, x.Neg.Counts, 1)), loop_brk (b := (x.Scale, x.Zero, x.Pos.Offset, x.Pos.Counts, x.Neg.Offset, x.Neg.Counts))]
    · exact ⟨x, 0, rfl, h2, h3⟩
    · unfold fold_Sum_lp1
      dsimp only
      rw [bifFd (by simp)]
    · unfold fold_Sum_lp1
      dsimp only
      rw [bifTd (by simp), show idx [a] 0 = some a from rfl, bind_some, h1', bind_some]
      dsimp only
      rw [bifF (by rfl), show w64 (0 + 1) = 1 by rw [w64_id] <;> omega]
  · rw [loop_out (r := (H0, e))]
    · exact ⟨H0, e, rfl, by simp [H0], by simp [H0]⟩
    · unfold fold_Sum_lp1
      dsimp only
      rw [bifTd (by simp), show idx [a] 0 = some a from rfl, bind_some, h1', bind_some]
      dsimp only
      rw [bifT (by simp [he])]; rfl
theorem foldKeeps (a b : api_Hist) (ia : Is a) (ib : Is b) : law09_FoldKeeps a b = some true := by
  unfold law09_FoldKeeps
  rw [awake09, bind_some, bifF (by rfl)]
  refine lights _ fun la lb => ?_
  have oa := ia.ok la.1 la.2
  have ob := ib.ok lb.1 lb.2
  have ca : hist_Clone a = some a := by
    unfold hist_Clone slices_Clone_uint64_uint64
    rw [app_ok (by simp; omega), bind_some, app_ok (by simp; omega), bind_some]; rfl
  have cb : hist_Clone b = some b := by
    unfold hist_Clone slices_Clone_uint64_uint64
    rw [app_ok (by simp; omega), bind_some, app_ok (by simp; omega), bind_some]; rfl
  rw [ca, bind_some, cb, bind_some]
  unfold law09_FoldKeeps_k1
  dsimp only
  obtain ⟨x, y, e, h1, l1, l2, l3, l4⟩ := level_any oa ob
  obtain ⟨m, e2, s, e3, h2, h3, l5, l6, l7, l8⟩ := merge_any oa ob
  obtain ⟨t, e4, h4, l9, l10⟩ := sum_any oa
  rw [h1, bind_some]
  dsimp only
  rw [h2, bind_some]
  dsimp only
  rw [h3, bind_some]
  dsimp only
  rw [h4, bind_some]
  dsimp only
  obtain ⟨r1, q1⟩ := inc_loop x.Pos.Counts (by omega)
  obtain ⟨r2, q2⟩ := inc_loop x.Neg.Counts (by omega)
  obtain ⟨r3, q3⟩ := inc_loop y.Pos.Counts (by omega)
  obtain ⟨r4, q4⟩ := inc_loop y.Neg.Counts (by omega)
  obtain ⟨r5, q5⟩ := inc_loop m.Pos.Counts (by omega)
  obtain ⟨r6, q6⟩ := inc_loop m.Neg.Counts (by omega)
  obtain ⟨r7, q7⟩ := inc_loop s.Pos.Counts (by omega)
  obtain ⟨r8, q8⟩ := inc_loop s.Neg.Counts (by omega)
  obtain ⟨r9, q9⟩ := inc_loop t.Pos.Counts (by omega)
  obtain ⟨r10, q10⟩ := inc_loop t.Neg.Counts (by omega)
  have q2' : loop law09_FoldKeeps_lp3 (x.Neg.Counts, 0) = _ := q2
  have q3' : loop law09_FoldKeeps_lp4 (y.Pos.Counts, 0) = _ := q3
  have q4' : loop law09_FoldKeeps_lp5 (y.Neg.Counts, 0) = _ := q4
  have q5' : loop law09_FoldKeeps_lp6 (m.Pos.Counts, 0) = _ := q5
  have q6' : loop law09_FoldKeeps_lp7 (m.Neg.Counts, 0) = _ := q6
  have q7' : loop law09_FoldKeeps_lp8 (s.Pos.Counts, 0) = _ := q7
  have q8' : loop law09_FoldKeeps_lp9 (s.Neg.Counts, 0) = _ := q8
  have q9' : loop law09_FoldKeeps_lp10 (t.Pos.Counts, 0) = _ := q9
  have q10' : loop law09_FoldKeeps_lp11 (t.Neg.Counts, 0) = _ := q10
  rw [q1, flow_go, bind_some, q2', flow_go, bind_some, q3', flow_go, bind_some, q4', flow_go, bind_some, q5', flow_go, bind_some, q6', flow_go, bind_some, q7', flow_go, bind_some, q8', flow_go, bind_some, q9', flow_go, bind_some, q10', flow_go, bind_some, bind_some]
  have sa : ref08_Same a (api_Hist.mk a.Scale a.Zero (api_Side.mk a.Pos.Offset a.Pos.Counts) (api_Side.mk a.Neg.Offset a.Neg.Counts)) = some true := same_self (by omega) (by omega)
  have sb : ref08_Same b (api_Hist.mk b.Scale b.Zero (api_Side.mk b.Pos.Offset b.Pos.Counts) (api_Side.mk b.Neg.Offset b.Neg.Counts)) = some true := same_self (by omega) (by omega)
  rw [sa, bind_some, bifT rfl, sb, bind_some, bind_some]
end Go.Lg
