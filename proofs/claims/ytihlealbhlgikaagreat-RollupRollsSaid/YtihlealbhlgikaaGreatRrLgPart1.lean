/- Lemmas about the given model and about plain data, which the rows stand on: no statement of the program by itself. -/
import Derived.Test.YtihlealbhlgikaaGreatRrLgPart0
import Ieee.Arith
set_option linter.unusedVariables false
namespace Go.Lg
structure api_Side where
  Offset : Int
  Counts : List UInt64
  deriving DecidableEq
structure api_Hist where
  Scale : Int
  Zero : UInt64
  Pos : api_Side
  Neg : api_Side
  deriving DecidableEq
structure histbits_Row where
  n : Int
  last : api_Hist
  deriving DecidableEq
structure histbits_shape where
  scale : Int
  posAt : Int
  posSize : Int
  negAt : Int
  negSize : Int
  deriving DecidableEq
structure anon_struct_to_api_Side_a_api_Side_b_api_Side where
  to : Option api_Side
  a : api_Side
  b : api_Side
  deriving DecidableEq
structure ref09_Pair where
  X : api_Hist
  Y : api_Hist
  E : Int
  deriving DecidableEq
structure ref10_State where
  L : List Int
  At : Int
  E : Int
  deriving DecidableEq
structure ref10_Got where
  H : api_Hist
  N : Int
  E : Int
  deriving DecidableEq
structure histbits_reader where
  r : Option bitio_Reader
  e : Int
  deriving DecidableEq
noncomputable def hist_sides (a0 : api_Hist) : Option (List api_Side) :=
 some [a0.Pos, a0.Neg]
noncomputable def hist_Total_lp2 (e67 : api_Side) : (UInt64 × UInt64 × Int) → Option (Rnd (UInt64 × UInt64 × Int) (UInt64 × UInt64) (UInt64 × UInt64)) := fun (sum91, over92, x93) =>
 bif decide (x93 < (e67.Counts.length : Int)) then
 (idx e67.Counts x93).bind fun e103 =>
 lett ((add64S sum91 e103 (0 : UInt64))) fun sum115 =>
 lett ((add64C sum91 e103 (0 : UInt64))) fun carry116 =>
 lett ((over92 ||| carry116)) fun over117 =>
 some (.next (sum115, over117, w64 (x93 + 1)))
 else
 some (.brk (sum91, over92))
noncomputable def hist_Total_lp1 (r28 : List api_Side) : (UInt64 × UInt64 × Int) → Option (Rnd (UInt64 × UInt64 × Int) (UInt64 × UInt64) (UInt64 × UInt64)) := fun (sum48, over49, x50) =>
 bif decide (x50 < 2) then
 (idx r28 x50).bind fun e67 =>
 (flow (loop (hist_Total_lp2 e67) (sum48, over49, 0)) fun (sum94, over95) =>
 some (sum94, over95)).bind fun (sum87, over88) =>
 some (.next (sum87, over88, w64 (x50 + 1)))
 else
 some (.brk (sum48, over49))
noncomputable def hist_Total (a0 : api_Hist) : Option (UInt64 × Bool) :=
 (hist_sides a0).bind fun r28 =>
 (flow (loop (hist_Total_lp1 r28) (a0.Zero, 0, 0)) fun (sum54, over55) =>
 some (sum54, over55)).bind fun (sum41, over42) =>
 bif (!decide (over42 = 0)) then
 some (0, false)
 else
 some (sum41, true)
noncomputable def hist_check (a0 : api_Side) : Option Int :=
 lett ((a0.Counts.length : Int)) fun nv22 =>
 lett (decide (160 < nv22)) fun t23 =>
 bif t23 then
 some 4
 else
 lett (((decide (nv22 = 0)) && (!decide (a0.Offset = 0)))) fun t27 =>
 bif t27 then
 some 3
 else
 lett (decide (nv22 = 0)) fun t30 =>
 bif t30 then
 some 0
 else
 (idx a0.Counts 0).bind fun e33 =>
 (bif decide (e33 = 0) then
 some true
 else
 (idx a0.Counts (w64 (nv22 - 1))).bind fun e49 =>
 some (decide (e49 = 0))).bind fun x45 =>
 bif x45 then
 some 3
 else
 lett (((decide (a0.Offset < (-1073741824))) || (decide (w64 (1073741824 - (w64 (nv22 - 1))) < a0.Offset)))) fun t64 =>
 bif t64 then
 some 1
 else
 some 0
noncomputable def hist_Check_lp1 (r31 : List api_Side) : Int → Option (Rnd Int Unit (Flow Unit Int)) := fun x49 =>
 bif decide (x49 < 2) then
 (idx r31 x49).bind fun e64 =>
 (hist_check e64).bind fun r84 =>
 bif (!decide (r84 = 0)) then
 outr (outs (some r84))
 else
 some (.next (w64 (x49 + 1)))
 else
 some (.brk ())
noncomputable def hist_Check (a0 : api_Hist) : Option Int :=
 bif ((decide (a0.Scale < (-10))) || (decide (20 < a0.Scale))) then
 some 1
 else
 (hist_sides a0).bind fun r31 =>
 flow (flow (loop (hist_Check_lp1 r31) 0) fun (_ : Unit) =>
 some (.go ())) fun (_ : Unit) =>
 (hist_Total a0).bind fun (r101, r102) =>
 bif (!r102) then
 some 4
 else
 some 0
noncomputable def hist_span (a0 : api_Side) (a1 : UInt64) : Option Int :=
 lett ((a0.Counts.length : Int)) fun nv22 =>
 bif decide (nv22 = 0) then
 some 0
 else
 lett (w64 ((w64 ((shrI (w64 ((w64 (a0.Offset + nv22)) - 1)) a1.toNat) - (shrI a0.Offset a1.toNat))) + 1)) fun t25 =>
 some t25
noncomputable def hist_down_lp1 (a0 : api_Side) (a1 : UInt64) : (List UInt64 × Int) → Option (Rnd (List UInt64 × Int) (List UInt64) api_Side) := fun (c204, x207) =>
 bif decide (x207 < (a0.Counts.length : Int)) then
 (idx a0.Counts x207).bind fun e228 =>
 (idx c204 (w64 ((shrI (w64 (a0.Offset + x207)) a1.toNat) - (shrI a0.Offset a1.toNat)))).bind fun e243 =>
 (idx c204 (w64 ((shrI (w64 (a0.Offset + x207)) a1.toNat) - (shrI a0.Offset a1.toNat)))).bind fun e253 =>
 lett ((e243 + e228)) fun t263 =>
 (setI c204 (w64 ((shrI (w64 (a0.Offset + x207)) a1.toNat) - (shrI a0.Offset a1.toNat))) t263).bind fun xs264 =>
 some (.next (xs264, w64 (x207 + 1)))
 else
 some (.brk c204)
noncomputable def hist_down (a0 : api_Side) (a1 : UInt64) : Option api_Side :=
 bif decide ((a0.Counts.length : Int) = 0) then
 some (api_Side.mk 0 [])
 else
 ((hist_span a0 a1).bind fun r70 =>
 ((mk r70 (0 : UInt64)).bind fun t90 =>
 some t90).bind fun x81 =>
 some x81).bind fun x60 =>
 flow (loop (hist_down_lp1 a0 a1) (x60, 0)) fun c211 =>
 some (api_Side.mk (shrI a0.Offset a1.toNat) c211)
noncomputable def hist_Down (a0 : api_Hist) (a1 : Int) : Option (api_Hist × Int) :=
 (hist_Check a0).bind fun r36 =>
 bif (!decide (r36 = 0)) then
 some ((api_Hist.mk 0 0 (api_Side.mk 0 []) (api_Side.mk 0 [])), r36)
 else
 bif ((decide (a1 < 0)) || (decide (w64 (a0.Scale - (-10)) < a1))) then
 some ((api_Hist.mk 0 0 (api_Side.mk 0 []) (api_Side.mk 0 [])), 1)
 else
 (hist_down a0.Pos (toU64 a1)).bind fun r117 =>
 (hist_down a0.Neg (toU64 a1)).bind fun r132 =>
 some ((api_Hist.mk (w64 (a0.Scale - a1)) a0.Zero r117 r132), 0)
noncomputable def hist_At (a0 : api_Side) (a1 : Int) : Option UInt64 :=
 bif ((decide (a1 < a0.Offset)) || (decide (toU64 (a0.Counts.length : Int) ≤ ((toU64 a1) - (toU64 a0.Offset))))) then
 some 0
 else
 (idx a0.Counts (w64 (a1 - a0.Offset))).bind fun e25 =>
 some e25
noncomputable def law08_awake  : Option Bool :=
 (hist_Down (api_Hist.mk 3 0 (api_Side.mk (-3) [1, 2, 3]) (api_Side.mk 0 [])) 1).bind fun (r30, r31) =>
 (bif ((decide (r31 = 0)) && (decide (r30.Scale = 2))) then
 (hist_At r30.Pos (-2)).bind fun r73 =>
 some (decide (r73 = 1))
 else
 some false).bind fun x65 =>
 (bif x65 then
 (hist_At r30.Pos (-1)).bind fun r92 =>
 some (decide (r92 = 5))
 else
 some false).bind fun x82 =>
 (bif (x82 && (decide ((r30.Pos.Counts.length : Int) = 2))) then
 (hist_Check (api_Hist.mk 0 0 (api_Side.mk 0 [0, 1]) (api_Side.mk 0 []))).bind fun r123 =>
 some (decide (r123 = 3))
 else
 some false).bind fun x107 =>
 some x107
noncomputable def ref08_Light (a0 : api_Hist) : Option Bool :=
 lett (((decide ((a0.Pos.Counts.length : Int) ≤ 300)) && (decide ((a0.Neg.Counts.length : Int) ≤ 300)))) fun t29 =>
 some t29
noncomputable def ref08_sum_lp1 (a1 : List UInt64) : (UInt64 × Int) → Option (Rnd (UInt64 × Int) UInt64 (UInt64 × Bool)) := fun (a12, i13) =>
 bif decide (i13 < (a1.length : Int)) then
 (idx a1 i13).bind fun e22 =>
 bif decide (((18446744073709551615 : UInt64) - a12) < e22) then
 outr (some (0, false))
 else
 (idx a1 i13).bind fun e36 =>
 lett ((a12 + e36)) fun a48 =>
 lett (w64 (i13 + 1)) fun i49 =>
 some (.next (a48, i49))
 else
 some (.brk a12)
noncomputable def ref08_sum (a0 : UInt64) (a1 : List UInt64) : Option (UInt64 × Bool) :=
 flow (loop (ref08_sum_lp1 a1) (a0, 0)) fun a14 =>
 some (a14, true)
noncomputable def ref08_Total (a0 : api_Hist) : Option (UInt64 × Bool) :=
 (ref08_sum a0.Zero a0.Pos.Counts).bind fun (r27, r28) =>
 bif (!r28) then
 some (0, false)
 else
 (ref08_sum r27 a0.Neg.Counts).bind fun (r42, r43) =>
 some (r42, r43)
noncomputable def ref08_side (a0 : api_Side) : Option Int :=
 lett ((a0.Counts.length : Int)) fun nv22 =>
 bif decide (160 < nv22) then
 some 4
 else
 bif decide (nv22 = 0) then
 bif (!decide (a0.Offset = 0)) then
 some 3
 else
 some 0
 else
 (idx a0.Counts 0).bind fun e29 =>
 (bif decide (e29 = 0) then
 some true
 else
 (idx a0.Counts (w64 (nv22 - 1))).bind fun e45 =>
 some (decide (e45 = 0))).bind fun x41 =>
 bif x41 then
 some 3
 else
 bif (((decide (a0.Offset < (-1073741824))) || (decide (1073741824 < a0.Offset))) || (decide (1073741824 < w64 ((w64 (a0.Offset + nv22)) - 1)))) then
 some 1
 else
 some 0
noncomputable def ref08_Check (a0 : api_Hist) : Option Int :=
 bif ((decide (a0.Scale < (-10))) || (decide (20 < a0.Scale))) then
 some 1
 else
 (ref08_side a0.Pos).bind fun r30 =>
 bif (!decide (r30 = 0)) then
 some r30
 else
 (ref08_side a0.Neg).bind fun r44 =>
 bif (!decide (r44 = 0)) then
 some r44
 else
 (ref08_Total a0).bind fun (r59, r60) =>
 bif (!r60) then
 some 4
 else
 some 0
noncomputable def ref08_SameSide_lp1 (a0 : api_Side) (a1 : api_Side) : Int → Option (Rnd Int Unit Bool) := fun i39 =>
 bif decide (i39 < (a0.Counts.length : Int)) then
 (idx a0.Counts i39).bind fun e60 =>
 (idx a1.Counts i39).bind fun e75 =>
 bif (!decide (e60 = e75)) then
 outr (some false)
 else
 lett (w64 (i39 + 1)) fun i92 =>
 some (.next i92)
 else
 some (.brk ())
noncomputable def ref08_SameSide (a0 : api_Side) (a1 : api_Side) : Option Bool :=
 bif ((!decide (a0.Offset = a1.Offset)) || (!decide ((a0.Counts.length : Int) = (a1.Counts.length : Int)))) then
 some false
 else
 flow (loop (ref08_SameSide_lp1 a0 a1) 0) fun (_ : Unit) =>
 some true
noncomputable def ref08_Same (a0 : api_Hist) (a1 : api_Hist) : Option Bool :=
 (bif ((decide (a0.Scale = a1.Scale)) && (decide (a0.Zero = a1.Zero))) then
 (ref08_SameSide a0.Pos a1.Pos).bind fun r55 =>
 some r55
 else
 some false).bind fun x45 =>
 (bif x45 then
 (ref08_SameSide a0.Neg a1.Neg).bind fun r78 =>
 some r78
 else
 some false).bind fun x64 =>
 some x64
noncomputable def ref08_Trim_lp1 : (List UInt64 × Int) → Option (Rnd (List UInt64 × Int) (List UInt64 × Int) (List UInt64 × Int)) := fun (l36, at39) =>
 (bif decide (0 < (l36.length : Int)) then
 (idx l36 0).bind fun e62 =>
 some (decide (e62 = 0))
 else
 some false).bind fun x58 =>
 bif x58 then
 (slc l36 1 (l36.length : Int)).bind fun t75 =>
 lett (w64 (at39 + 1)) fun at79 =>
 some (.next (t75, at79))
 else
 some (.brk (l36, at39))
noncomputable def ref08_Trim_lp2 : (List UInt64) → Option (Rnd (List UInt64) (List UInt64) (List UInt64)) := fun l88 =>
 (bif decide (0 < (l88.length : Int)) then
 (idx l88 (w64 ((l88.length : Int) - 1))).bind fun e110 =>
 some (decide (e110 = 0))
 else
 some false).bind fun x106 =>
 bif x106 then
 (slc l88 0 (w64 ((l88.length : Int) - 1))).bind fun t123 =>
 some (.next t123)
 else
 some (.brk l88)
noncomputable def ref08_Trim (a0 : api_Side) : Option api_Side :=
 (flow (loop (ref08_Trim_lp1) (a0.Counts, a0.Offset)) fun (l43, at46) =>
 some (l43, at46)).bind fun (l27, at30) =>
 (flow (loop (ref08_Trim_lp2) l27) fun l94 =>
 some l94).bind fun l80 =>
 bif decide ((l80.length : Int) = 0) then
 some (api_Side.mk 0 [])
 else
 (app [] l80).bind fun xs134 =>
 some (api_Side.mk at30 xs134)
noncomputable def ref08_half (a0 : Int) : Option Int :=
 bif decide (a0 < 0) then
 lett (w64 (0 - (w64 ((w64 (1 - a0)).tdiv 2)))) fun t12 =>
 some t12
 else
 lett (w64 (a0.tdiv 2)) fun t14 =>
 some t14
noncomputable def ref08_once_lp1 (a0 : api_Side) : (Int × List UInt64 × Int) → Option (Rnd (Int × List UInt64 × Int) (Int × List UInt64) api_Side) := fun (c32, c33, i36) =>
 bif decide (i36 < (a0.Counts.length : Int)) then
 ((ref08_half (w64 (a0.Offset + i36))).bind fun r72 =>
 bif decide ((c33.length : Int) = 0) then
 (idx a0.Counts i36).bind fun e89 =>
 some (r72, [e89])
 else
 bif decide (r72 = w64 ((w64 (c32 + (c33.length : Int))) - 1)) then
 lett ((c33.length : Int)) fun nv122 =>
 (idx c33 (w64 (nv122 - 1))).bind fun e126 =>
 (idx a0.Counts i36).bind fun e139 =>
 lett ((e126 + e139)) fun last153 =>
 (slc c33 0 (w64 (nv122 - 1))).bind fun t160 =>
 (app [] t160).bind fun xs164 =>
 (app xs164 [last153]).bind fun xs175 =>
 some (c32, xs175)
 else
 (idx a0.Counts i36).bind fun e219 =>
 (app c33 [e219]).bind fun xs245 =>
 some (c32, xs245)).bind fun (c63, c64) =>
 lett (w64 (i36 + 1)) fun i271 =>
 some (.next (c63, c64, i271))
 else
 some (.brk (c32, c33))
noncomputable def ref08_once (a0 : api_Side) : Option api_Side :=
 flow (loop (ref08_once_lp1 a0) (0, [], 0)) fun (c41, c42) =>
 some (api_Side.mk c41 c42)
noncomputable def ref08_Down_lp1 (a1 : Int) : (Int × Int × List UInt64 × Int × List UInt64 × Int) → Option (Rnd (Int × Int × List UInt64 × Int × List UInt64 × Int) (Int × Int × List UInt64 × Int × List UInt64) (api_Hist × Int)) := fun (c293, c294, c295, c298, c299, i302) =>
 bif decide (i302 < a1) then
 (ref08_once (api_Side.mk c294 c295)).bind fun r366 =>
 (ref08_once (api_Side.mk c298 c299)).bind fun r380 =>
 lett (w64 (i302 + 1)) fun i410 =>
 some (.next (w64 (c293 - 1), r366.Offset, r366.Counts, r380.Offset, r380.Counts, i410))
 else
 some (.brk (c293, c294, c295, c298, c299))
noncomputable def ref08_Down (a0 : api_Hist) (a1 : Int) : Option (api_Hist × Int) :=
 (ref08_Check a0).bind fun r36 =>
 bif (!decide (r36 = 0)) then
 some ((api_Hist.mk 0 0 (api_Side.mk 0 []) (api_Side.mk 0 [])), r36)
 else
 bif ((decide (a1 < 0)) || (decide (w64 (a0.Scale - (-10)) < a1))) then
 some ((api_Hist.mk 0 0 (api_Side.mk 0 []) (api_Side.mk 0 [])), 1)
 else
 ((ref08_Trim a0.Pos).bind fun r115 =>
 ((ref08_Trim a0.Neg).bind fun r145 =>
 some (r115.Counts, r145.Offset, r145.Counts)).bind fun (x129, x132, x133) =>
 some (r115.Offset, x129, x132, x133)).bind fun (x99, x100, x103, x104) =>
 flow (loop (ref08_Down_lp1 a1) (a0.Scale, x99, x100, x103, x104, 0)) fun (c307, c308, c309, c312, c313) =>
 some ((api_Hist.mk c307 a0.Zero (api_Side.mk c308 c309) (api_Side.mk c312 c313)), 0)
noncomputable def hist_Fit_lp1 (a0 : api_Hist) (a1 : Int) : Int → Option (Rnd Int Unit (api_Hist × Int)) := fun by51 =>
 bif decide (by51 ≤ w64 (a0.Scale - (-10))) then
 (hist_span a0.Pos (toU64 by51)).bind fun r103 =>
 (hist_span a0.Neg (toU64 by51)).bind fun r116 =>
 bif decide ((max r103 r116) ≤ a1) then
 (hist_Down a0 by51).bind fun (r138, r139) =>
 outr (some (r138, r139))
 else
 lett (w64 (by51 + 1)) fun by174 =>
 some (.next by174)
 else
 some (.brk ())
noncomputable def hist_Fit (a0 : api_Hist) (a1 : Int) : Option (api_Hist × Int) :=
 (hist_Check a0).bind fun r36 =>
 bif (!decide (r36 = 0)) then
 some ((api_Hist.mk 0 0 (api_Side.mk 0 []) (api_Side.mk 0 [])), r36)
 else
 flow (loop (hist_Fit_lp1 a0 a1) 0) fun (_ : Unit) =>
 some ((api_Hist.mk 0 0 (api_Side.mk 0 []) (api_Side.mk 0 [])), 4)
def slices_Clone_uint64_uint64 (a0 : List UInt64) : Option (List UInt64) := app [] a0
noncomputable def hist_Trim_lp1 (a0 : api_Side) (to33 : Int) : Int → Option (Rnd Int Int Int) := fun from37 =>
 (bif decide (from37 < to33) then
 (idx a0.Counts from37).bind fun e49 =>
 some (decide (e49 = 0))
 else
 some false).bind fun x45 =>
 bif x45 then
 lett (w64 (from37 + 1)) fun from62 =>
 some (.next from62)
 else
 some (.brk from37)
noncomputable def hist_Trim_lp2 (a0 : api_Side) (from34 : Int) : Int → Option (Rnd Int Int Int) := fun to66 =>
 (bif decide (from34 < to66) then
 (idx a0.Counts (w64 (to66 - 1))).bind fun e78 =>
 some (decide (e78 = 0))
 else
 some false).bind fun x74 =>
 bif x74 then
 lett (w64 (to66 - 1)) fun to91 =>
 some (.next to91)
 else
 some (.brk to66)
noncomputable def hist_Trim (a0 : api_Side) : Option api_Side :=
 lett ((a0.Counts.length : Int)) fun to33 =>
 (flow (loop (hist_Trim_lp1 a0 to33) 0) fun from38 =>
 some from38).bind fun from34 =>
 (flow (loop (hist_Trim_lp2 a0 from34) to33) fun to67 =>
 some to67).bind fun to63 =>
 bif decide (from34 = to63) then
 some (api_Side.mk 0 [])
 else
 (slc a0.Counts from34 to63).bind fun t128 =>
 (slices_Clone_uint64_uint64 t128).bind fun r136 =>
 some (api_Side.mk (w64 (a0.Offset + from34)) r136)
noncomputable def hist_Clone (a0 : api_Hist) : Option api_Hist :=
 (slices_Clone_uint64_uint64 a0.Pos.Counts).bind fun r60 =>
 (slices_Clone_uint64_uint64 a0.Neg.Counts).bind fun r82 =>
 some (api_Hist.mk a0.Scale a0.Zero (api_Side.mk a0.Pos.Offset r60) (api_Side.mk a0.Neg.Offset r82))
noncomputable def fold_Level_lp1 (a0 : api_Hist) (a1 : api_Hist) : Int → Option (Rnd Int Unit (Flow Unit (api_Hist × api_Hist × Int))) := fun x63 =>
 bif decide (x63 < 2) then
 (idx [a0, a1] x63).bind fun e95 =>
 (hist_Check e95).bind fun r123 =>
 bif (!decide (r123 = 0)) then
 outr (outs (some ((api_Hist.mk 0 0 (api_Side.mk 0 []) (api_Side.mk 0 [])), (api_Hist.mk 0 0 (api_Side.mk 0 []) (api_Side.mk 0 [])), r123)))
 else
 some (.next (w64 (x63 + 1)))
 else
 some (.brk ())
noncomputable def fold_Level (a0 : api_Hist) (a1 : api_Hist) : Option (api_Hist × api_Hist × Int) :=
 flow (flow (loop (fold_Level_lp1 a0 a1) 0) fun (_ : Unit) =>
 some (.go ())) fun (_ : Unit) =>
 lett ((min a0.Scale a1.Scale)) fun scale153 =>
 (hist_Down a0 (w64 (a0.Scale - scale153))).bind fun (r164, r165) =>
 (hist_Down a1 (w64 (a1.Scale - scale153))).bind fun (r208, r209) =>
 some (r164, r208, 0)
noncomputable def fold_ends (a0 : api_Side) : Option (Int × Int) :=
 lett (w64 (a0.Offset + (a0.Counts.length : Int))) fun to26 =>
 some (a0.Offset, to26)
noncomputable def fold_cover (a0 : api_Side) (a1 : api_Side) : Option (Int × Int) :=
 bif decide ((a0.Counts.length : Int) = 0) then
 lett ((a1.Counts.length : Int)) fun nv41 =>
 some (a1.Offset, nv41)
 else
 bif decide ((a1.Counts.length : Int) = 0) then
 lett ((a0.Counts.length : Int)) fun nv49 =>
 some (a0.Offset, nv49)
 else
 (fold_ends a0).bind fun (r51, r52) =>
 (fold_ends a1).bind fun (r63, r64) =>
 lett ((min r51 r63)) fun from73 =>
 lett ((max r52 r64)) fun end74 =>
 lett (w64 (end74 - from73)) fun nv75 =>
 some (from73, nv75)
noncomputable def fold_left_lp1 (a0 : api_Side) (a1 : api_Side) : Int → Option (Rnd Int Unit (Flow Unit (api_Side × Bool))) := fun x45 =>
 bif decide (x45 < (a1.Counts.length : Int)) then
 (idx a1.Counts x45).bind fun e59 =>
 (hist_At a0 (w64 (a1.Offset + x45))).bind fun r80 =>
 bif decide (r80 < e59) then
 outr (outs (some ((api_Side.mk 0 []), false)))
 else
 some (.next (w64 (x45 + 1)))
 else
 some (.brk ())
noncomputable def fold_left_lp2 (a0 : api_Side) (a1 : api_Side) : (List UInt64 × Int) → Option (Rnd (List UInt64 × Int) (List UInt64) (List UInt64)) := fun (c125, x128) =>
 bif decide (x128 < (a0.Counts.length : Int)) then
 (idx a0.Counts x128).bind fun e146 =>
 (hist_At a1 (w64 (a0.Offset + x128))).bind fun r201 =>
 (app c125 [(e146 - r201)]).bind fun xs218 =>
 some (.next (xs218, w64 (x128 + 1)))
 else
 some (.brk c125)
noncomputable def fold_left (a0 : api_Side) (a1 : api_Side) : Option (api_Side × Bool) :=
 flow (flow (loop (fold_left_lp1 a0 a1) 0) fun (_ : Unit) =>
 some (.go ())) fun (_ : Unit) =>
 (flow (loop (fold_left_lp2 a0 a1) ([], 0)) fun c133 =>
 some c133).bind fun c116 =>
 (hist_Trim (api_Side.mk a0.Offset c116)).bind fun r250 =>
 some (r250, true)
noncomputable def fold_Sub (a0 : api_Hist) (a1 : api_Hist) : Option (api_Hist × Int) :=
 (fold_Level a0 a1).bind fun (r61, r62, r63) =>
 bif (!decide (r63 = 0)) then
 some ((api_Hist.mk 0 0 (api_Side.mk 0 []) (api_Side.mk 0 [])), r63)
 else
 (fold_left r61.Pos r62.Pos).bind fun (r142, r143) =>
 (fold_left r61.Neg r62.Neg).bind fun (r183, r184) =>
 bif (((decide (r61.Zero < r62.Zero)) || (!r143)) || (!r184)) then
 some ((api_Hist.mk 0 0 (api_Side.mk 0 []) (api_Side.mk 0 [])), 7)
 else
 some ((api_Hist.mk r61.Scale (r61.Zero - r62.Zero) r142 r183), 0)
noncomputable def ref09_Level (a0 : api_Hist) (a1 : api_Hist) : Option ref09_Pair :=
 (ref08_Check a0).bind fun r56 =>
 bif (!decide (r56 = 0)) then
 some (ref09_Pair.mk (api_Hist.mk 0 0 (api_Side.mk 0 []) (api_Side.mk 0 [])) (api_Hist.mk 0 0 (api_Side.mk 0 []) (api_Side.mk 0 [])) r56)
 else
 (ref08_Check a1).bind fun r79 =>
 bif (!decide (r79 = 0)) then
 some (ref09_Pair.mk (api_Hist.mk 0 0 (api_Side.mk 0 []) (api_Side.mk 0 [])) (api_Hist.mk 0 0 (api_Side.mk 0 []) (api_Side.mk 0 [])) r79)
 else
 (bif decide (a1.Scale < a0.Scale) then
 some a1.Scale
 else
 some a0.Scale).bind fun s97 =>
 (ref08_Down a0 (w64 (a0.Scale - s97))).bind fun (r106, r107) =>
 (ref08_Down a1 (w64 (a1.Scale - s97))).bind fun (r152, r153) =>
 some (ref09_Pair.mk r106 r152 0)
noncomputable def ref09_At (a0 : api_Side) (a1 : Int) : Option UInt64 :=
 bif ((decide (a1 < a0.Offset)) || (decide (w64 (a0.Offset + (a0.Counts.length : Int)) ≤ a1))) then
 some 0
 else
 (idx a0.Counts (w64 (a1 - a0.Offset))).bind fun e25 =>
 some e25
def rep_api_Side : Rep api_Side := Rep.via (Rep.pair Rep.i (Rep.sl Rep.u)) fun d => (d.Offset, d.Counts)
def rep_api_Hist : Rep api_Hist := Rep.via (Rep.pair Rep.i (Rep.pair Rep.u (Rep.pair rep_api_Side rep_api_Side))) fun d => (d.Scale, d.Zero, d.Pos, d.Neg)
end Go.Lg
namespace Go.Lg
attribute [local irreducible] w64 toU64 toU8 shlU shrU shlB shrB
/-! ### sums of counts -/
def su (l : List UInt64) : Nat := (l.map (·.toNat)).sum
def us (l : List UInt64) : UInt64 := l.foldl (· + ·) 0
theorem su_append (l m : List UInt64) : su (l ++ m) = su l + su m := by simp [su]
theorem su_snoc (l : List UInt64) (x : UInt64) : su (l ++ [x]) = su l + x.toNat := by simp [su]
theorem take_snoc {α : Type} {l : List α} {i : Nat} (h : i < l.length) : l.take (i + 1) = l.take i ++ [l[i]] := List.take_succ_eq_append_getElem h
theorem su_take_le (l : List UInt64) (k : Nat) : su (l.take k) ≤ su l := by
  have := List.take_append_drop k l
  have h2 : su l = su (l.take k) + su (l.drop k) := by rw [← su_append, this]
  omega
theorem or_zero {a b : UInt64} : a ||| b = 0 ↔ a = 0 ∧ b = 0 := by
  constructor
  · intro h
    have h1 : (a ||| b).toBitVec = 0 := by rw [h]; rfl
    rw [UInt64.toBitVec_or] at h1
    have h2 := BitVec.or_eq_zero_iff.1 h1
    exact ⟨UInt64.toBitVec_inj.1 h2.1, UInt64.toBitVec_inj.1 h2.2⟩
  · rintro ⟨rfl, rfl⟩; rfl
/-- a running sum and whether it has passed 2^64 -/
def Acc (T : Nat) (s o : UInt64) : Prop := s.toNat = T % 18446744073709551616 ∧ (o = 0 ↔ T < 18446744073709551616)
theorem Acc.step {T : Nat} {s o : UInt64} (h : Acc T s o) (c : UInt64) : Acc (T + c.toNat) (add64S s c 0) (o ||| add64C s c 0) := by
  obtain ⟨h1, h2⟩ := h
  have hc := UInt64.toNat_lt c
  have hs := UInt64.toNat_lt s
  refine ⟨?_, ?_⟩
  · unfold add64S
    rw [UInt64.add_zero, UInt64.toNat_add, h1]; omega
  · rw [or_zero, h2]
    have h3 : (add64C s c 0).toNat = (s.toNat + c.toNat) / 18446744073709551616 := by
      unfold add64C
      rw [u64_ofNat (by simp; omega)]; simp
    rw [← UInt64.toNat_inj, h3, show (0 : UInt64).toNat = 0 from rfl, h1]
    omega
theorem total_inner (sd : api_Side) (hl : sd.Counts.length ≤ 1000000) (T : Nat) : ∀ (m x : Nat) (s o : UInt64), x + m = sd.Counts.length → Acc (T + su (sd.Counts.take x)) s o →
    ∃ s' o', loop (hist_Total_lp2 sd) (s, o, (x : Int)) = some (.go (s', o')) ∧ Acc (T + su sd.Counts) s' o' := by
  intro m
  induction m with
  | zero =>
    intro x s o hx h
    obtain rfl : x = sd.Counts.length := by omega
    rw [List.take_length] at h
    refine ⟨s, o, loop_brk ?_, h⟩
    unfold hist_Total_lp2
    dsimp only
    rw [bifFd (by omega)]
  | succ m ih =>
    intro x s o hx h
    have hlt : x < sd.Counts.length := by omega
    have h' := h.step sd.Counts[x]
    rw [Nat.add_assoc, ← su_snoc, ← take_snoc hlt] at h'
    obtain ⟨s', o', g1, g2⟩ := ih (x + 1) _ _ (by omega) h'
    refine ⟨s', o', ?_, g2⟩
    rw [← g1]
    refine loop_next ?_
    unfold hist_Total_lp2
    dsimp only
    rw [bifTd (by omega), idx_nat hlt, bind_some, lett_eq, lett_eq, lett_eq, w64_succ (by omega)]
/-- all that a histogram counts -/
def tot (h : api_Hist) : Nat := h.Zero.toNat + su h.Pos.Counts + su h.Neg.Counts
theorem total_eq {h : api_Hist} (hp : h.Pos.Counts.length ≤ 1000000) (hn : h.Neg.Counts.length ≤ 1000000) :
    hist_Total h = some (if tot h < 18446744073709551616 then (UInt64.ofNat (tot h), true) else (0, false)) := by
  have a0 : Acc (h.Zero.toNat + su (h.Pos.Counts.take 0)) h.Zero 0 := by
    have := UInt64.toNat_lt h.Zero
    refine ⟨by simp [su], by simp [su]; omega⟩
  obtain ⟨s1, o1, p1, q1⟩ := total_inner h.Pos hp h.Zero.toNat h.Pos.Counts.length 0 h.Zero 0 (by omega) a0
  obtain ⟨s2, o2, p2, q2⟩ := total_inner h.Neg hn (h.Zero.toNat + su h.Pos.Counts) h.Neg.Counts.length 0 s1 o1 (by omega) (by simpa [su] using q1)
  have p1' : loop (hist_Total_lp2 h.Pos) (h.Zero, 0, 0) = _ := p1
  have p2' : loop (hist_Total_lp2 h.Neg) (s1, o1, 0) = _ := p2
  have r0 : hist_Total_lp1 [h.Pos, h.Neg] (h.Zero, 0, ((0 : Nat) : Int)) = some (.next (s1, o1, ((1 : Nat) : Int))) := by
    unfold hist_Total_lp1
    dsimp only
    rw [bifTd (by omega), idx_nat (by simp), bind_some, w64_succ (by omega)]
    dsimp only [List.getElem_cons_zero]
    rw [p1', flow_go]; rfl
  have r1 : hist_Total_lp1 [h.Pos, h.Neg] (s1, o1, ((1 : Nat) : Int)) = some (.next (s2, o2, ((2 : Nat) : Int))) := by
    unfold hist_Total_lp1
    dsimp only
    rw [bifTd (by omega), idx_nat (by simp), bind_some, w64_succ (by omega)]
    dsimp only [List.getElem_cons_succ, List.getElem_cons_zero]
    rw [p2', flow_go]; rfl
  have r2 : hist_Total_lp1 [h.Pos, h.Neg] (s2, o2, ((2 : Nat) : Int)) = some (.brk (s2, o2)) := by
    unfold hist_Total_lp1
    dsimp only
    rw [bifFd (by omega)]
  have hl : loop (hist_Total_lp1 [h.Pos, h.Neg]) (h.Zero, 0, 0) = some (.go (s2, o2)) := by
    have e : loop (hist_Total_lp1 [h.Pos, h.Neg]) (h.Zero, 0, 0) = loop (hist_Total_lp1 [h.Pos, h.Neg]) (h.Zero, 0, ((0 : Nat) : Int)) := rfl
    rw [e, loop_next r0, loop_next r1, loop_brk r2]
  unfold hist_Total
  rw [show hist_sides h = some [h.Pos, h.Neg] from rfl, bind_some, hl, flow_go]
  dsimp only
  rw [bind_some]
  dsimp only
  have hT : tot h = h.Zero.toNat + su h.Pos.Counts + su h.Neg.Counts := rfl
  rw [← hT] at q2
  by_cases hlt : tot h < 18446744073709551616
  · have e : s2 = UInt64.ofNat (tot h) := by apply UInt64.toNat_inj.1; rw [q2.1, u64_ofNat hlt]; omega
    rw [if_pos hlt, bifF (by rw [decide_eq_true (q2.2.2 hlt)]; rfl), e]
  · rw [if_neg hlt, bifT (by rw [decide_eq_false (fun e => hlt (q2.2.1 e))]; rfl)]
theorem refSum_eq {a : UInt64} {l : List UInt64} (hl : l.length ≤ 1000000) : ref08_sum a l = some (if a.toNat + su l < 18446744073709551616 then (UInt64.ofNat (a.toNat + su l), true) else (0, false)) := by
  have key : ∀ (m i : Nat) (s : UInt64), i + m = l.length → s.toNat = a.toNat + su (l.take i) →
      loop (ref08_sum_lp1 l) (s, (i : Int)) = some (if a.toNat + su l < 18446744073709551616 then .go (UInt64.ofNat (a.toNat + su l)) else .out (0, false)) := by
    intro m
    induction m with
    | zero =>
      intro i s hi hs
      obtain rfl : i = l.length := by omega
      rw [List.take_length] at hs
      have := UInt64.toNat_lt s
      rw [if_pos (by omega), ← hs]
      refine loop_brk ?_
      unfold ref08_sum_lp1
      dsimp only
      rw [bifFd (by omega)]; simp
    | succ m ih =>
      intro i s hi hs
      have hlt : i < l.length := by omega
      have hle : su (l.take (i + 1)) ≤ su l := su_take_le l (i + 1)
      rw [take_snoc hlt, su_snoc] at hle
      have hsl := UInt64.toNat_lt s
      have hsub : ((18446744073709551615 : UInt64) - s).toNat = 18446744073709551615 - s.toNat := by
        rw [UInt64.toNat_sub_of_le]
        · rfl
        · rw [UInt64.le_iff_toNat_le]
          have : (18446744073709551615 : UInt64).toNat = 18446744073709551615 := rfl
          omega
      by_cases hov : 18446744073709551615 - s.toNat < (l[i]).toNat
      · rw [if_neg (by omega)]
        refine loop_out ?_
        unfold ref08_sum_lp1
        dsimp only
        rw [bifTd (by omega), idx_nat hlt, bind_some, bifTd (by rw [UInt64.lt_iff_toNat_lt, hsub]; exact hov)]
        rfl
      · rw [loop_next (s' := (s + l[i], ((i + 1 : Nat) : Int))), ih (i + 1) _ (by omega)]
        · rw [take_snoc hlt, su_snoc, UInt64.toNat_add, hs]; omega
        · unfold ref08_sum_lp1
          dsimp only
          rw [bifTd (by omega), idx_nat hlt, bind_some, bifFd (by rw [UInt64.lt_iff_toNat_lt, hsub]; exact hov), bind_some, lett_eq, lett_eq, w64_succ (by omega)]
  unfold ref08_sum
  have h0 := key l.length 0 a (by omega) (by simp [su])
  have h0' : loop (ref08_sum_lp1 l) (a, 0) = _ := h0
  rw [h0']
  split <;> rfl
theorem refTotal_eq {h : api_Hist} (hp : h.Pos.Counts.length ≤ 1000000) (hn : h.Neg.Counts.length ≤ 1000000) :
    ref08_Total h = some (if tot h < 18446744073709551616 then (UInt64.ofNat (tot h), true) else (0, false)) := by
  unfold ref08_Total
  have hT : tot h = h.Zero.toNat + su h.Pos.Counts + su h.Neg.Counts := rfl
  rw [refSum_eq hp, bind_some]
  by_cases h1 : h.Zero.toNat + su h.Pos.Counts < 18446744073709551616
  · rw [if_pos h1]
    dsimp only
    rw [bifF (by rfl), refSum_eq hn, bind_some, u64_ofNat h1, ← hT]
  · rw [if_neg h1, if_neg (by omega)]
    rfl
/-! ### what is wrong with a side, with a histogram -/
def sideE (s : api_Side) : Int :=
  if 160 < s.Counts.length then 4
  else if s.Counts.length = 0 then (if s.Offset = 0 then 0 else 3)
  else if s.Counts.getD 0 0 = 0 ∨ s.Counts.getD (s.Counts.length - 1) 0 = 0 then 3
  else if s.Offset < -1073741824 ∨ 1073741824 - ((s.Counts.length : Int) - 1) < s.Offset then 1 else 0
theorem ends_eq {c : List UInt64} (h : 0 < c.length) (hl : c.length ≤ 1000000) :
    ((idx c 0).bind fun e33 => (bif decide (e33 = 0) then some true else (idx c (w64 ((c.length : Int) - 1))).bind fun e49 => some (decide (e49 = 0)))) = some (decide (c.getD 0 0 = 0 ∨ c.getD (c.length - 1) 0 = 0)) := by
  have e1 : w64 ((c.length : Int) - 1) = ((c.length - 1 : Nat) : Int) := w64_subN (b := 1) h (by omega)
  rw [idx_0 h, bind_some, e1, idx_nat (by omega), bind_some, getD_lt h, getD_lt (by omega)]
  by_cases h0 : c[0] = 0
  · rw [bifTd h0, decide_eq_true (.inl h0)]
  · rw [bifFd h0]
    congr 1
    rw [decide_eq_decide]
    exact ⟨.inr, fun h => h.elim (fun e => absurd e h0) id⟩
theorem bind_assoc' {α β γ : Type} (x : Option α) (f : α → Option β) (g : β → Option γ) : (x.bind f).bind g = x.bind fun a => (f a).bind g := by cases x <;> rfl
theorem check_eq {s : api_Side} (ho : I64 s.Offset) (hl : s.Counts.length ≤ 1000000) : hist_check s = some (sideE s) := by
  unfold I64 at ho
  unfold hist_check sideE
  rw [lett_eq, lett_eq]
  by_cases h1 : 160 < s.Counts.length
  · rw [bifTd (by omega), if_pos h1]
  rw [bifFd (by omega), if_neg h1, lett_eq]
  by_cases h2 : s.Counts.length = 0
  · rw [if_pos h2]
    by_cases h3 : s.Offset = 0
    · rw [if_pos h3, bifF (by simp [h3]), lett_eq, bifTd (by omega)]
    · rw [if_neg h3, bifT (by simp [h3, h2])]
  rw [if_neg h2, bifF (by simp [h2]), lett_eq, bifFd (by omega), ← bind_assoc', ends_eq (by omega) hl, bind_some]
  by_cases h4 : s.Counts.getD 0 0 = 0 ∨ s.Counts.getD (s.Counts.length - 1) 0 = 0
  · rw [bifTd h4, if_pos h4]
  rw [bifFd h4, if_neg h4, lett_eq, w64_id (x := (s.Counts.length : Int) - 1) (by omega) (by omega), w64_id (by omega) (by omega), ← Bool.decide_or]
  by_cases h5 : s.Offset < -1073741824 ∨ 1073741824 - ((s.Counts.length : Int) - 1) < s.Offset
  · rw [bifTd h5, if_pos h5]
  · rw [bifFd h5, if_neg h5]
theorem side_eq {s : api_Side} (ho : I64 s.Offset) (hl : s.Counts.length ≤ 1000000) : ref08_side s = some (sideE s) := by
  unfold I64 at ho
  unfold ref08_side sideE
  rw [lett_eq]
  by_cases h1 : 160 < s.Counts.length
  · rw [bifTd (by omega), if_pos h1]
  rw [bifFd (by omega), if_neg h1]
  by_cases h2 : s.Counts.length = 0
  · rw [if_pos h2, bifTd (by omega)]
    by_cases h3 : s.Offset = 0
    · rw [if_pos h3, bifF (by simp [h3])]
    · rw [if_neg h3, bifT (by simp [h3])]
  rw [if_neg h2, bifFd (by omega), ← bind_assoc', ends_eq (by omega) hl, bind_some]
  by_cases h4 : s.Counts.getD 0 0 = 0 ∨ s.Counts.getD (s.Counts.length - 1) 0 = 0
  · rw [bifTd h4, if_pos h4]
  rw [bifFd h4, if_neg h4, ← Bool.decide_or, ← Bool.decide_or]
  by_cases h5 : s.Offset < -1073741824 ∨ 1073741824 - ((s.Counts.length : Int) - 1) < s.Offset
  · rw [if_pos h5, bifTd]
    by_cases h6 : 1073741824 < s.Offset
    · exact .inl (.inr h6)
    · rcases h5 with h5 | h5
      · exact .inl (.inl h5)
      · refine .inr ?_
        rw [w64_id (x := s.Offset + (s.Counts.length : Int)) (by omega) (by omega), w64_id (by omega) (by omega)]; omega
  · rw [if_neg h5, bifFd]
    rw [w64_id (x := s.Offset + (s.Counts.length : Int)) (by omega) (by omega), w64_id (by omega) (by omega)]; omega
def histE (h : api_Hist) : Int :=
  if h.Scale < -10 ∨ 20 < h.Scale then 1
  else if sideE h.Pos ≠ 0 then sideE h.Pos
  else if sideE h.Neg ≠ 0 then sideE h.Neg
  else if tot h < 18446744073709551616 then 0 else 4
structure OkH (h : api_Hist) : Prop where
  s : I64 h.Scale
  po : I64 h.Pos.Offset
  no : I64 h.Neg.Offset
  pl : h.Pos.Counts.length ≤ 1000000
  nl : h.Neg.Counts.length ≤ 1000000
theorem Check_eq {h : api_Hist} (o : OkH h) : hist_Check h = some (histE h) := by
  have c1 := check_eq o.po o.pl
  have c2 := check_eq o.no o.nl
  have r0 : hist_Check_lp1 [h.Pos, h.Neg] ((0 : Nat) : Int) = if sideE h.Pos ≠ 0 then some (.out (.out (sideE h.Pos))) else some (.next ((1 : Nat) : Int)) := by
    unfold hist_Check_lp1
    rw [bifTd (by omega), idx_nat (by simp), bind_some]
    dsimp only [List.getElem_cons_zero]
    rw [c1, bind_some]
    by_cases e : sideE h.Pos = 0
    · rw [if_neg (fun h => h e), bifF (by simp [e]), w64_succ (by omega)]
    · rw [if_pos e, bifT (by simp [e])]; rfl
  have r1 : hist_Check_lp1 [h.Pos, h.Neg] ((1 : Nat) : Int) = if sideE h.Neg ≠ 0 then some (.out (.out (sideE h.Neg))) else some (.next ((2 : Nat) : Int)) := by
    unfold hist_Check_lp1
    rw [bifTd (by omega), idx_nat (by simp), bind_some]
    dsimp only [List.getElem_cons_succ, List.getElem_cons_zero]
    rw [c2, bind_some]
    by_cases e : sideE h.Neg = 0
    · rw [if_neg (fun h => h e), bifF (by simp [e]), w64_succ (by omega)]
    · rw [if_pos e, bifT (by simp [e])]; rfl
  have r2 : hist_Check_lp1 [h.Pos, h.Neg] ((2 : Nat) : Int) = some (.brk ()) := by
    unfold hist_Check_lp1
    rw [bifFd (by omega)]
  unfold hist_Check histE
  by_cases h1 : h.Scale < -10 ∨ 20 < h.Scale
  · rw [if_pos h1, bifT (by simpa using h1)]
  rw [if_neg h1, bifF (by simpa using h1), show hist_sides h = some [h.Pos, h.Neg] from rfl, bind_some]
  show flow (flow (loop (hist_Check_lp1 [h.Pos, h.Neg]) ((0 : Nat) : Int)) _) _ = _
  by_cases h2 : sideE h.Pos ≠ 0
  · rw [if_pos h2] at r0
    rw [if_pos h2, loop_out r0]; rfl
  rw [if_neg h2] at r0
  rw [if_neg h2, loop_next r0]
  by_cases h3 : sideE h.Neg ≠ 0
  · rw [if_pos h3] at r1
    rw [if_pos h3, loop_out r1]; rfl
  rw [if_neg h3] at r1
  rw [if_neg h3, loop_next r1, loop_brk r2, flow_go, flow_go, total_eq o.pl o.nl, bind_some]
  by_cases h4 : tot h < 18446744073709551616
  · rw [if_pos h4, if_pos h4]; rfl
  · rw [if_neg h4, if_neg h4]; rfl
theorem RCheck_eq {h : api_Hist} (o : OkH h) : ref08_Check h = some (histE h) := by
  unfold ref08_Check histE
  by_cases h1 : h.Scale < -10 ∨ 20 < h.Scale
  · rw [if_pos h1, bifT (by simpa using h1)]
  rw [if_neg h1, bifF (by simpa using h1), side_eq o.po o.pl, bind_some]
  by_cases h2 : sideE h.Pos ≠ 0
  · rw [if_pos h2, bifT (by simp [h2])]
  rw [if_neg h2, bifF (by simpa using h2), side_eq o.no o.nl, bind_some]
  by_cases h3 : sideE h.Neg ≠ 0
  · rw [if_pos h3, bifT (by simp [h3])]
  rw [if_neg h3, bifF (by simpa using h3), refTotal_eq o.pl o.nl, bind_some]
  by_cases h4 : tot h < 18446744073709551616
  · rw [if_pos h4, if_pos h4]; rfl
  · rw [if_neg h4, if_neg h4]; rfl
end Go.Lg
namespace Go.Lg
attribute [local irreducible] w64 toU64 toU8 shlU shrU shlB shrB
theorem su_nil : su [] = 0 := rfl
theorem su_cons (x : UInt64) (l : List UInt64) : su (x :: l) = x.toNat + su l := by simp [su]
theorem su_take_mono (l : List UInt64) {a b : Nat} (h : a ≤ b) : su (l.take a) ≤ su (l.take b) := by
  have := su_take_le (l.take b) a
  rwa [List.take_take, Nat.min_eq_left h] at this
theorem su_take_succ {l : List UInt64} {i : Nat} (h : i < l.length) : su (l.take (i + 1)) = su (l.take i) + (l[i]).toNat := by rw [take_snoc h, su_snoc]
theorem su_all (l : List UInt64) {k : Nat} (h : l.length ≤ k) : su (l.take k) = su l := by rw [List.take_of_length_le h]
theorem su_get_le {l : List UInt64} {i : Nat} (h : i < l.length) : (l[i]).toNat ≤ su l := by
  have := su_take_succ h
  have := su_take_le l (i + 1)
  omega
theorem su_zeros (n : Nat) : su (List.replicate n 0) = 0 := by
  induction n with
  | zero => rfl
  | succ n ih => rw [List.replicate_succ, su_cons, ih]; rfl
theorem su_set {l : List UInt64} {k : Nat} (h : k < l.length) (e : UInt64) (hb : (l[k]).toNat + e.toNat < 18446744073709551616) (j : Nat) :
    su ((l.set k (l[k] + e)).take j) = su (l.take j) + if k < j then e.toNat else 0 := by
  induction l generalizing k j with
  | nil => simp at h
  | cons x l ih =>
    cases j with
    | zero => simp [su]
    | succ j =>
      cases k with
      | zero =>
        simp only [List.set_cons_zero, List.take_succ_cons, List.getElem_cons_zero] at hb ⊢
        rw [su_cons, su_cons, if_pos (by omega), UInt64.toNat_add, Nat.mod_eq_of_lt hb]; omega
      | succ k =>
        simp only [List.set_cons_succ, List.take_succ_cons, List.getElem_cons_succ] at hb ⊢
        rw [su_cons, su_cons, ih (by simpa using h) hb]
        by_cases hkj : k < j
        · rw [if_pos hkj, if_pos (by omega)]; omega
        · rw [if_neg hkj, if_neg (by omega)]; omega
/-- lists that sum up alike are alike -/
theorem su_ext {l m : List UInt64} (hl : l.length = m.length) (h : ∀ j, su (l.take j) = su (m.take j)) : l = m := by
  apply List.ext_getElem hl
  intro i h1 h2
  apply UInt64.toNat_inj.1
  have a := su_take_succ h1
  have b := su_take_succ h2
  have c := h i
  have d := h (i + 1)
  omega
/-- more coarsely, by P: t is s with each P buckets one -/
structure Dn (P : Int) (s t : api_Side) : Prop where
  o : t.Offset = s.Offset / P
  l : (t.Counts.length : Int) = (s.Offset + s.Counts.length - 1) / P - s.Offset / P + 1
  su : ∀ j : Nat, su (t.Counts.take j) = su (s.Counts.take (P * (t.Offset + j) - s.Offset).toNat)
theorem Dn.inj {P : Int} {s t u : api_Side} (h : Dn P s t) (k : Dn P s u) : t = u := by
  have ho : t.Offset = u.Offset := by rw [h.o, k.o]
  have hl : t.Counts.length = u.Counts.length := by have := h.l; have := k.l; omega
  have hc : t.Counts = u.Counts := su_ext hl fun j => by rw [h.su, k.su, ho]
  cases t; cases u; simp only at ho hc; subst ho; subst hc; rfl
theorem Dn.comp {P Q : Int} {s t u : api_Side} (hP : 0 < P) (hQ : 0 < Q) (h : Dn P s t) (k : Dn Q t u) : Dn (P * Q) s u := by
  have ho : u.Offset = s.Offset / (P * Q) := by rw [k.o, h.o, Int.ediv_ediv_of_nonneg (by omega)]
  have hend : t.Offset + t.Counts.length - 1 = (s.Offset + s.Counts.length - 1) / P := by have := h.l; have := h.o; omega
  refine ⟨ho, ?_, fun j => ?_⟩
  · rw [k.l, hend, Int.ediv_ediv_of_nonneg (by omega), h.o, Int.ediv_ediv_of_nonneg (by omega)]
  · rw [k.su, h.su]
    have hq : Q * u.Offset ≤ t.Offset := by rw [k.o]; exact Int.mul_ediv_self_le (by omega)
    by_cases hz : Q * (u.Offset + j) ≤ t.Offset
    · have e1 : (Q * (u.Offset + j) - t.Offset).toNat = 0 := by omega
      have hp : P * t.Offset ≤ s.Offset := by rw [h.o]; exact Int.mul_ediv_self_le (by omega)
      have h2 : P * (Q * (u.Offset + j)) ≤ P * t.Offset := Int.mul_le_mul_of_nonneg_left hz (by omega)
      rw [e1, Int.mul_assoc]
      have e2 : (P * (Q * (u.Offset + j)) - s.Offset).toNat = 0 := by omega
      have e3 : (P * (t.Offset + ((0 : Nat) : Int)) - s.Offset).toNat = 0 := by rw [show t.Offset + ((0 : Nat) : Int) = t.Offset by omega]; omega
      rw [e2, e3]
    · have e1 : t.Offset + ((Q * (u.Offset + j) - t.Offset).toNat : Int) = Q * (u.Offset + j) := by omega
      rw [e1, Int.mul_assoc]
theorem Dn.id (s : api_Side) : Dn 1 s s := by
  refine ⟨by simp, by rw [Int.ediv_one, Int.ediv_one]; omega, fun j => ?_⟩
  congr 2; omega
theorem Dn.tot {P : Int} {s t : api_Side} (hP : 0 < P) (h : Dn P s t) (hn : 0 < s.Counts.length) : Lg.su t.Counts = Lg.su s.Counts := by
  have h1 := h.su t.Counts.length
  rw [List.take_length] at h1
  rw [h1, su_all]
  have hl := h.l
  have ho := h.o
  have h2 : s.Offset + s.Counts.length - 1 < P * ((s.Offset + s.Counts.length - 1) / P + 1) := by
    have h3 := Int.mul_ediv_add_emod (s.Offset + s.Counts.length - 1) P
    have h4 := Int.emod_lt_of_pos (s.Offset + s.Counts.length - 1) hP
    rw [Int.mul_add, Int.mul_one]; omega
  have e : t.Offset + (t.Counts.length : Int) = (s.Offset + s.Counts.length - 1) / P + 1 := by omega
  rw [e]; omega
/-! ### the program's way -/
theorem shrI_nat (a : Int) {n : Nat} (h : n ≤ 64) : shrI a n = a / 2 ^ n := by unfold shrI; rw [Nat.min_eq_left h]
theorem p2 (n : Nat) : (0 : Int) < 2 ^ n := Int.pow_pos (by omega)
theorem div_bd {a : Int} {P : Int} (hP : 0 < P) {b : Int} (hb : 0 ≤ b) (h : -b ≤ a ∧ a ≤ b) : -b ≤ a / P ∧ a / P ≤ b := by
  constructor
  · have : -b ≤ a / P ↔ -b * P ≤ a := Int.le_ediv_iff_mul_le hP
    rw [this]
    have : b ≤ b * P := by
      have := Int.mul_le_mul_of_nonneg_left (show (1 : Int) ≤ P by omega) hb
      omega
    rw [Int.neg_mul]; omega
  · have h1 : a / P ≤ b ↔ a / P < b + 1 := by omega
    rw [h1, Int.ediv_lt_iff_lt_mul hP]
    have := Int.mul_le_mul_of_nonneg_left (show (1 : Int) ≤ P by omega) (show 0 ≤ b + 1 by omega)
    omega
theorem span_eq {s : api_Side} {by_ : Nat} (hb : by_ ≤ 64) (ho : -1100000000000 ≤ s.Offset ∧ s.Offset ≤ 1100000000000) (hn : 0 < s.Counts.length) (hl : s.Counts.length ≤ 1000000) {u : UInt64} (hu : u.toNat = by_) :
    hist_span s u = some ((s.Offset + s.Counts.length - 1) / 2 ^ by_ - s.Offset / 2 ^ by_ + 1) := by
  unfold hist_span
  have h1 := div_bd (p2 by_) (b := 1200000000000) (by omega) (a := s.Offset + s.Counts.length - 1) (by omega)
  have h2 := div_bd (p2 by_) (b := 1200000000000) (by omega) (a := s.Offset) (by omega)
  rw [lett_eq, bifFd (by omega), hu, w64_id (x := s.Offset + s.Counts.length) (by omega) (by omega), w64_id (x := s.Offset + s.Counts.length - 1) (by omega) (by omega), shrI_nat _ hb, shrI_nat _ hb]
  rw [lett_eq, w64_id (x := (s.Offset + s.Counts.length - 1) / 2 ^ by_ - s.Offset / 2 ^ by_) (by omega) (by omega), w64_id (by omega) (by omega)]
theorem ediv_mono {a b P : Int} (hP : 0 < P) (h : a ≤ b) : a / P ≤ b / P := Int.ediv_le_ediv hP h
theorem down_eq {s : api_Side} {by_ : Nat} (hb : by_ ≤ 64) (ho : -1100000000000 ≤ s.Offset ∧ s.Offset ≤ 1100000000000) (hn : 0 < s.Counts.length) (hl : s.Counts.length ≤ 1000000) (hs : su s.Counts < 18446744073709551616) {u : UInt64} (hu : u.toNat = by_) :
    ∃ t, hist_down s u = some t ∧ Dn (2 ^ by_) s t := by
  have hP := p2 by_
  have hspan := span_eq hb ho hn hl hu
  unfold hist_down
  rw [bifFd (by omega), hspan, bind_some, hu, shrI_nat _ hb]
  have h1 := div_bd hP (b := 1200000000000) (by omega) (a := s.Offset + s.Counts.length - 1) (by omega)
  have h2 := div_bd hP (b := 1200000000000) (by omega) (a := s.Offset) (by omega)
  have hmono := ediv_mono hP (show s.Offset ≤ s.Offset + s.Counts.length - 1 by omega)
  have hlen2 : (s.Offset + s.Counts.length - 1) / 2 ^ by_ - s.Offset / 2 ^ by_ ≤ s.Counts.length - 1 := by
    have e1 := Int.mul_ediv_add_emod s.Offset (2 ^ by_)
    have e2 := Int.emod_nonneg s.Offset (show (2 : Int) ^ by_ ≠ 0 by omega)
    have h3 : (s.Offset + s.Counts.length - 1) / 2 ^ by_ < s.Offset / 2 ^ by_ + s.Counts.length := by
      rw [Int.ediv_lt_iff_lt_mul hP]
      have h4 : (s.Offset / 2 ^ by_ + s.Counts.length) * 2 ^ by_ = 2 ^ by_ * (s.Offset / 2 ^ by_) + s.Counts.length * 2 ^ by_ := by rw [Int.add_mul, Int.mul_comm (s.Offset / 2 ^ by_)]
      have h5 : (s.Counts.length : Int) * 1 ≤ s.Counts.length * 2 ^ by_ := Int.mul_le_mul_of_nonneg_left (by omega) (by omega)
      have h6 := Int.emod_lt_of_pos s.Offset hP
      rw [h4]
      have h7 : (s.Counts.length : Int) - 1 + s.Offset % 2 ^ by_ < s.Counts.length * 2 ^ by_ := by
        have h8 : ((s.Counts.length : Int) - 1) * 1 ≤ (s.Counts.length - 1) * 2 ^ by_ := Int.mul_le_mul_of_nonneg_left (by omega) (by omega)
        have h9 : ((s.Counts.length : Int) - 1) * 2 ^ by_ = s.Counts.length * 2 ^ by_ - 2 ^ by_ := by rw [Int.sub_mul, Int.one_mul]
        rw [h9, Int.mul_one] at h8; omega
      omega
    omega
  obtain ⟨m, hm⟩ : ∃ m : Nat, (s.Offset + s.Counts.length - 1) / 2 ^ by_ - s.Offset / 2 ^ by_ + 1 = (m : Int) := ⟨((s.Offset + s.Counts.length - 1) / 2 ^ by_ - s.Offset / 2 ^ by_ + 1).toNat, by omega⟩
  have hmk : mk ((s.Offset + s.Counts.length - 1) / 2 ^ by_ - s.Offset / 2 ^ by_ + 1) (0 : UInt64) = some (List.replicate m 0) := by
    unfold mk LIM
    rw [hm, if_pos (by omega)]; simp
  rw [hmk, bind_some, bind_some, bind_some]
  have key : ∀ (k x : Nat) (c : List UInt64), x + k = s.Counts.length → c.length = m → (∀ j : Nat, su (c.take j) = su ((s.Counts.take x).take (2 ^ by_ * (s.Offset / 2 ^ by_ + j) - s.Offset).toNat)) →
      ∃ c', loop (hist_down_lp1 s u) (c, (x : Int)) = some (.go c') ∧ c'.length = m ∧ (∀ j : Nat, su (c'.take j) = su (s.Counts.take (2 ^ by_ * (s.Offset / 2 ^ by_ + j) - s.Offset).toNat)) := by
    intro k
    induction k with
    | zero =>
      intro x c hx hc hinv
      obtain rfl : x = s.Counts.length := by omega
      refine ⟨c, loop_brk ?_, hc, fun j => by rw [hinv j, List.take_length]⟩
      unfold hist_down_lp1
      dsimp only
      rw [bifFd (by omega)]
    | succ k ih =>
      intro x c hx hc hinv
      have hlt : x < s.Counts.length := by omega
      have m1 := ediv_mono hP (show s.Offset ≤ s.Offset + x by omega)
      have m2 := ediv_mono hP (show s.Offset + x ≤ s.Offset + s.Counts.length - 1 by omega)
      obtain ⟨q, hq⟩ : ∃ q : Nat, (s.Offset + x) / 2 ^ by_ - s.Offset / 2 ^ by_ = (q : Int) := ⟨((s.Offset + x) / 2 ^ by_ - s.Offset / 2 ^ by_).toNat, by omega⟩
      have hqm : q < m := by omega
      have hql : q < c.length := by omega
      have hsum : (c[q]).toNat + (s.Counts[x]).toNat < 18446744073709551616 := by
        have a := su_get_le hql
        have b := hinv c.length
        rw [List.take_length] at b
        have d := su_take_le (s.Counts.take x) (2 ^ by_ * (s.Offset / 2 ^ by_ + (c.length : Int)) - s.Offset).toNat
        have e := su_take_succ hlt
        have f := su_take_le s.Counts (x + 1)
        omega
      have hr : hist_down_lp1 s u (c, (x : Int)) = some (.next (c.set q (c[q] + s.Counts[x]), ((x + 1 : Nat) : Int))) := by
        unfold hist_down_lp1
        dsimp only
        rw [bifTd (by omega), idx_nat hlt, bind_some, hu, shrI_nat _ hb, shrI_nat _ hb, w64_id (x := s.Offset + x) (by omega) (by omega), hq, w64_nat (by omega), idx_nat hql, bind_some, bind_some, lett_eq, setI_nat hql, bind_some, w64_succ (by omega)]
      obtain ⟨c', g1, g2, g3⟩ := ih (x + 1) (c.set q (c[q] + s.Counts[x])) (by omega) (by simpa using hc) (fun j => by
        rw [su_set hql _ hsum, hinv j]
        have hiff : q < j ↔ x < (2 ^ by_ * (s.Offset / 2 ^ by_ + j) - s.Offset).toNat := by
          have h3 : (s.Offset + x) / 2 ^ by_ < s.Offset / 2 ^ by_ + j ↔ s.Offset + x < (s.Offset / 2 ^ by_ + j) * 2 ^ by_ := Int.ediv_lt_iff_lt_mul hP
          rw [Int.mul_comm] at h3
          omega
        generalize (2 ^ by_ * (s.Offset / 2 ^ by_ + (j : Int)) - s.Offset).toNat = t at hiff
        by_cases hqj : q < j
        · have ht := hiff.1 hqj
          have e1 : (s.Counts.take x).take t = s.Counts.take x := List.take_of_length_le (by rw [List.length_take]; omega)
          have e2 : (s.Counts.take (x + 1)).take t = s.Counts.take (x + 1) := List.take_of_length_le (by rw [List.length_take]; omega)
          rw [if_pos hqj, e1, e2, su_take_succ hlt]
        · have ht : t ≤ x := by have := mt hiff.2 hqj; omega
          rw [if_neg hqj, List.take_take, List.take_take, Nat.min_eq_left ht, Nat.min_eq_left (by omega)]; omega)
      exact ⟨c', by rw [loop_next hr]; exact g1, g2, g3⟩
  obtain ⟨c', g1, g2, g3⟩ := key s.Counts.length 0 (List.replicate m 0) (by omega) (by simp) (fun j => by
    rw [List.take_zero, List.take_nil, List.take_replicate, su_zeros]; rfl)
  have g1' : loop (hist_down_lp1 s u) (List.replicate m 0, 0) = some (.go c') := g1
  rw [g1', flow_go]
  exact ⟨_, rfl, rfl, by dsimp only; omega, g3⟩
end Go.Lg
namespace Go.Lg
attribute [local irreducible] w64 toU64 toU8 shlU shrU shlB shrB
theorem half_eq {i : Int} (h : -2000000000000 ≤ i ∧ i ≤ 2000000000000) : ref08_half i = some (i / 2) := by
  unfold ref08_half
  by_cases h0 : i < 0
  · obtain ⟨m, hm⟩ : ∃ m : Nat, 1 - i = (m : Int) := ⟨(1 - i).toNat, by omega⟩
    rw [bifTd h0, lett_eq, w64_id (x := 1 - i) (by omega) (by omega), hm, show (2 : Int) = ((2 : Nat) : Int) from rfl, tdivN, w64_nat (by omega), w64_id (by omega) (by omega)]
    congr 1; omega
  · obtain ⟨m, rfl⟩ : ∃ m : Nat, i = (m : Int) := ⟨i.toNat, by omega⟩
    rw [bifFd h0, lett_eq, show (2 : Int) = ((2 : Nat) : Int) from rfl, tdivN, w64_nat (by omega)]
    congr 1
theorem su_app1 (l : List UInt64) (x : UInt64) (j : Nat) : su ((l ++ [x]).take j) = su (l.take j) + if l.length < j then x.toNat else 0 := by
  by_cases h : l.length < j
  · rw [if_pos h, List.take_of_length_le (by simp; omega), List.take_of_length_le (by omega), su_snoc]
  · rw [if_neg h, List.take_append_of_le_length (by omega)]; rfl
theorem set_last {l : List UInt64} {q : Nat} (h : q + 1 = l.length) (x : UInt64) : l.take q ++ [x] = l.set q x := by
  apply List.ext_getElem?
  intro i
  rw [List.getElem?_set, List.getElem?_append, List.length_take]
  by_cases h1 : i < q
  · rw [if_pos (by omega), if_neg (by omega), List.getElem?_take, if_pos h1]
  · rw [if_neg (by omega)]
    by_cases h2 : q = i
    · subst h2; rw [if_pos rfl, if_pos (by omega)]; simp [show min q l.length = q by omega]
    · rw [if_neg h2, List.getElem?_eq_none (by simp; omega), List.getElem?_eq_none (by omega)]
theorem once_eq {s : api_Side} (ho : -1100000000000 ≤ s.Offset ∧ s.Offset ≤ 1100000000000) (hn : 0 < s.Counts.length) (hl : s.Counts.length ≤ 1000000) (hs : su s.Counts < 18446744073709551616) :
    ∃ t, ref08_once s = some t ∧ Dn 2 s t := by
  have key : ∀ (k i : Nat) (c : List UInt64), i + k = s.Counts.length → 1 ≤ i → (c.length : Int) = (s.Offset + i - 1) / 2 - s.Offset / 2 + 1 → (∀ j : Nat, su (c.take j) = su ((s.Counts.take i).take (2 * (s.Offset / 2 + j) - s.Offset).toNat)) →
      ∃ c', loop (ref08_once_lp1 s) (s.Offset / 2, c, (i : Int)) = some (.go (s.Offset / 2, c')) ∧ (c'.length : Int) = (s.Offset + s.Counts.length - 1) / 2 - s.Offset / 2 + 1 ∧ (∀ j : Nat, su (c'.take j) = su (s.Counts.take (2 * (s.Offset / 2 + j) - s.Offset).toNat)) := by
    intro k
    induction k with
    | zero =>
      intro i c hi _ hc hinv
      obtain rfl : i = s.Counts.length := by omega
      refine ⟨c, loop_brk ?_, hc, fun j => by rw [hinv j, List.take_length]⟩
      unfold ref08_once_lp1
      dsimp only
      rw [bifFd (by omega)]
    | succ k ih =>
      intro i c hi h1 hc hinv
      have hlt : i < s.Counts.length := by omega
      have hcl : 0 < c.length := by omega
      have hclb : c.length ≤ 1000000 := by omega
      have hiff : ∀ (q j : Nat), (s.Offset + i) / 2 - s.Offset / 2 = (q : Int) → (q < j ↔ i < (2 * (s.Offset / 2 + j) - s.Offset).toNat) := by
        intro q j hq; omega
      have hstep : ∀ c2 : List UInt64, (∃ q : Nat, (s.Offset + i) / 2 - s.Offset / 2 = (q : Int) ∧ ∀ j : Nat, su (c2.take j) = su (c.take j) + if q < j then (s.Counts[i]).toNat else 0) →
          ∀ j : Nat, su (c2.take j) = su ((s.Counts.take (i + 1)).take (2 * (s.Offset / 2 + j) - s.Offset).toNat) := by
        rintro c2 ⟨q, hq, hc2⟩ j
        rw [hc2, hinv j]
        have hi2 := hiff q j hq
        generalize (2 * (s.Offset / 2 + (j : Int)) - s.Offset).toNat = t at hi2
        by_cases hqj : q < j
        · have ht := hi2.1 hqj
          have e1 : (s.Counts.take i).take t = s.Counts.take i := List.take_of_length_le (by rw [List.length_take]; omega)
          have e2 : (s.Counts.take (i + 1)).take t = s.Counts.take (i + 1) := List.take_of_length_le (by rw [List.length_take]; omega)
          rw [if_pos hqj, e1, e2, su_take_succ hlt]
        · have ht : t ≤ i := by have := mt hi2.2 hqj; omega
          rw [if_neg hqj, List.take_take, List.take_take, Nat.min_eq_left ht, Nat.min_eq_left (by omega)]; omega
      have B1 : i + 1 < 9223372036854775808 := by omega
      have E1 : w64 (s.Offset + (i : Int)) = s.Offset + i := w64_id (by omega) (by omega)
      have E2 : w64 ((w64 (s.Offset / 2 + (c.length : Int))) - 1) = s.Offset / 2 + c.length - 1 := by rw [w64_id (x := s.Offset / 2 + (c.length : Int)) (by omega) (by omega), w64_id (by omega) (by omega)]
      by_cases hsame : (s.Offset + i) / 2 = s.Offset / 2 + c.length - 1
      · obtain ⟨q, hq⟩ : ∃ q : Nat, q + 1 = c.length := ⟨c.length - 1, by omega⟩
        have hql : q < c.length := by omega
        have hsum : (c[q]).toNat + (s.Counts[i]).toNat < 18446744073709551616 := by
          have a := su_get_le hql
          have b := hinv c.length
          rw [List.take_length] at b
          have d := su_take_le (s.Counts.take i) (2 * (s.Offset / 2 + (c.length : Int)) - s.Offset).toNat
          have e := su_take_succ hlt
          have f := su_take_le s.Counts (i + 1)
          clear hinv hstep hiff E1 E2
          omega
        have hr : ref08_once_lp1 s (s.Offset / 2, c, (i : Int)) = some (.next (s.Offset / 2, c.set q (c[q] + s.Counts[i]), ((i + 1 : Nat) : Int))) := by
          have E3 : w64 ((c.length : Int) - 1) = (q : Int) := by rw [w64_id (by omega) (by omega)]; omega
          unfold ref08_once_lp1
          dsimp only
          rw [bifTd (by omega), E1, half_eq (by omega), bind_some, bifFd (by omega), E2, bifTd hsame, lett_eq, E3, idx_nat hql, bind_some, idx_nat hlt, bind_some, lett_eq, show (0 : Int) = ((0 : Nat) : Int) from rfl, slc_nat (by omega) (by omega), bind_some, List.drop_zero,
            app_ok (by simp; omega), bind_some, List.nil_append, app_ok (by simp; omega), bind_some, bind_some]
          dsimp only
          rw [lett_eq, w64_succ B1, set_last hq]
        obtain ⟨c', g1, g2, g3⟩ := ih (i + 1) _ (by omega) (by omega) (by rw [List.length_set]; omega) (hstep _ ⟨q, by omega, fun j => su_set hql _ hsum j⟩)
        exact ⟨c', by rw [loop_next hr, g1], g2, g3⟩
      · have hr : ref08_once_lp1 s (s.Offset / 2, c, (i : Int)) = some (.next (s.Offset / 2, c ++ [s.Counts[i]], ((i + 1 : Nat) : Int))) := by
          unfold ref08_once_lp1
          dsimp only
          rw [bifTd (by omega), E1, half_eq (by omega), bind_some, bifFd (by omega), E2, bifFd hsame, idx_nat hlt, bind_some, app_ok (by simp; omega), bind_some, bind_some]
          dsimp only
          rw [lett_eq, w64_succ B1]
        obtain ⟨c', g1, g2, g3⟩ := ih (i + 1) _ (by omega) (by omega) (by rw [List.length_append, List.length_singleton]; omega) (hstep _ ⟨c.length, by omega, fun j => su_app1 _ _ j⟩)
        exact ⟨c', by rw [loop_next hr, g1], g2, g3⟩
  have hr0 : ref08_once_lp1 s (0, [], ((0 : Nat) : Int)) = some (.next (s.Offset / 2, [s.Counts[0]], ((1 : Nat) : Int))) := by
    unfold ref08_once_lp1
    dsimp only
    rw [bifTd (by omega), show s.Offset + ((0 : Nat) : Int) = s.Offset by omega, w64_id (by omega) (by omega), half_eq (by omega), bind_some, bifTd (by simp), idx_nat hn, bind_some, bind_some]
    dsimp only
    rw [lett_eq, w64_succ (by omega)]
  obtain ⟨c', g1, g2, g3⟩ := key (s.Counts.length - 1) 1 [s.Counts[0]] (by omega) (by omega) (by simp only [List.length_singleton]; omega) (fun j => by
    have e1 : s.Counts.take 1 = [s.Counts[0]] := by rw [show (1 : Nat) = 0 + 1 from rfl, take_snoc hn]; rfl
    rw [e1]
    by_cases hj : j = 0
    · subst hj
      have : (2 * (s.Offset / 2 + ((0 : Nat) : Int)) - s.Offset).toNat = 0 := by omega
      rw [this]
    · rw [List.take_of_length_le (by simp; omega), List.take_of_length_le (by simp; omega)])
  refine ⟨⟨s.Offset / 2, c'⟩, ?_, rfl, g2, g3⟩
  unfold ref08_once
  have hr0' : ref08_once_lp1 s (0, [], 0) = _ := hr0
  rw [loop_next hr0', g1, flow_go]
/-! ### ends that are nought -/
def zl : List UInt64 → Nat
  | [] => 0
  | x :: l => if x = 0 then 1 + zl l else 0
theorem zl_le : ∀ l : List UInt64, zl l ≤ l.length
  | [] => by simp [zl]
  | x :: l => by have := zl_le l; rw [zl]; split <;> simp <;> omega
theorem zl_at (l : List UInt64) (h : zl l < l.length) : l[zl l] ≠ 0 := by
  induction l with
  | nil => simp at h
  | cons x l ih =>
    simp only [zl] at h ⊢
    by_cases hx : x = 0
    · simp only [if_pos hx] at h ⊢
      have := ih (by simp at h; omega)
      simpa [Nat.add_comm 1] using this
    · simp only [if_neg hx]; simpa using hx
/-- how many stay when noughts behind place a are struck, from place n down -/
def kl (l : List UInt64) (a : Nat) : Nat → Nat
  | 0 => 0
  | n + 1 => if a < n + 1 ∧ l.getD n 0 = 0 then kl l a n else n + 1
theorem kl_le (l : List UInt64) (a : Nat) : ∀ n, kl l a n ≤ n
  | 0 => Nat.le_refl _
  | n + 1 => by rw [kl]; have := kl_le l a n; split <;> omega
theorem kl_gt {l : List UInt64} {a : Nat} (ha : l.getD a 0 ≠ 0) : ∀ n, a < n → a < kl l a n
  | 0, h => by omega
  | n + 1, h => by
    rw [kl]
    by_cases hn : n = a
    · subst hn; rw [if_neg (fun h => ha h.2)]; omega
    · split
      · exact kl_gt ha n (by omega)
      · omega
def trimS (s : api_Side) : api_Side :=
  if zl s.Counts = s.Counts.length then ⟨0, []⟩ else ⟨s.Offset + zl s.Counts, (s.Counts.take (kl s.Counts (zl s.Counts) s.Counts.length)).drop (zl s.Counts)⟩
theorem rtrim_front : ∀ (l : List UInt64) (a : Int), -1200000000000 ≤ a ∧ a + l.length ≤ 1200000000000 → l.length ≤ 1000000 → loop ref08_Trim_lp1 (l, a) = some (.go (l.drop (zl l), a + zl l)) := by
  intro l
  induction l with
  | nil =>
    intro a _ _
    refine loop_brk ?_
    unfold ref08_Trim_lp1
    dsimp only
    rw [bifFd (by simp), bind_some, cond_false]
    simp [zl]
  | cons x l ih =>
    intro a ha hl
    simp only [List.length_cons] at ha hl
    rw [zl]
    by_cases h0 : x = 0
    · rw [if_pos h0, loop_next (s' := (l, a + 1)), ih (a + 1) (by omega) (by omega)]
      · rw [Nat.add_comm 1, List.drop_succ_cons]
        congr 3; omega
      · unfold ref08_Trim_lp1
        dsimp only
        rw [bifTd (by simp only [List.length_cons]; omega), idx_0 (by simp), bind_some, bind_some, bifTd (by simpa using h0), show (1 : Int) = ((1 : Nat) : Int) from rfl, slc_nat (by simp) (Nat.le_refl _), bind_some, lett_eq, List.take_length, w64_id (by omega) (by omega)]
        rfl
    · rw [if_neg h0]
      refine loop_brk ?_
      unfold ref08_Trim_lp1
      dsimp only
      rw [bifTd (by simp only [List.length_cons]; omega), idx_0 (by simp), bind_some, bind_some, bifFd (by simpa using h0)]
      simp
theorem rtrim_back (l : List UInt64) (hl : l.length ≤ 1000000) : ∀ n, n ≤ l.length → loop ref08_Trim_lp2 (l.take n) = some (.go (l.take (kl l 0 n))) := by
  intro n
  induction n with
  | zero =>
    intro _
    refine loop_brk ?_
    unfold ref08_Trim_lp2
    rw [List.take_zero, bifFd (by simp), bind_some, cond_false]; rfl
  | succ n ih =>
    intro hn
    have hlen : (l.take (n + 1)).length = n + 1 := by rw [List.length_take]; omega
    have e1 : w64 (((l.take (n + 1)).length : Int) - 1) = (n : Int) := by rw [hlen, w64_id (by omega) (by omega)]; omega
    have hg : (l.take (n + 1))[n]'(by omega) = l[n]'(by omega) := by simp
    rw [kl]
    by_cases h0 : l.getD n 0 = 0
    · rw [if_pos ⟨by omega, h0⟩, loop_next (s' := l.take n), ih (by omega)]
      unfold ref08_Trim_lp2
      rw [getD_lt (by omega)] at h0
      rw [bifTd (by omega), e1, idx_nat (by omega), hg, bind_some, bind_some, bifTd h0, show (0 : Int) = ((0 : Nat) : Int) from rfl, slc_nat (by omega) (by omega), bind_some, List.drop_zero, List.take_take, Nat.min_eq_left (by omega)]
    · rw [if_neg (fun h => h0 h.2)]
      refine loop_brk ?_
      unfold ref08_Trim_lp2
      rw [getD_lt (by omega)] at h0
      rw [bifTd (by omega), e1, idx_nat (by omega), hg, bind_some, bind_some, bifFd h0]
theorem kl_drop (l : List UInt64) (a : Nat) : ∀ n, a + n ≤ l.length → kl l a (a + n) = a + kl (l.drop a) 0 n
  | 0, h => by
    cases a with
    | zero => rfl
    | succ a =>
      show kl l (a + 1) (a + 1) = a + 1
      rw [kl, if_neg (by omega)]
  | n + 1, h => by
    rw [← Nat.add_assoc, kl, kl]
    have hd : l.getD (a + n) 0 = (l.drop a).getD n 0 := by rw [getD_lt (by omega), getD_lt (by simp; omega)]; simp
    rw [hd, kl_drop l a n (by omega)]
    by_cases h0 : (l.drop a).getD n 0 = 0
    · rw [if_pos ⟨by omega, h0⟩, if_pos ⟨by omega, h0⟩]
    · rw [if_neg (fun h => h0 h.2), if_neg (fun h => h0 h.2)]; omega
theorem RTrim_eq {s : api_Side} (ho : -1100000000000 ≤ s.Offset ∧ s.Offset ≤ 1100000000000) (hl : s.Counts.length ≤ 1000000) : ref08_Trim s = some (trimS s) := by
  have hz := zl_le s.Counts
  have f1 := rtrim_front s.Counts s.Offset (by omega) hl
  have hdl : (s.Counts.drop (zl s.Counts)).length = s.Counts.length - zl s.Counts := List.length_drop
  have f2 := rtrim_back (s.Counts.drop (zl s.Counts)) (by omega) (s.Counts.drop (zl s.Counts)).length (Nat.le_refl _)
  rw [List.take_length, hdl] at f2
  have hk := kl_drop s.Counts (zl s.Counts) (s.Counts.length - zl s.Counts) (by omega)
  rw [show zl s.Counts + (s.Counts.length - zl s.Counts) = s.Counts.length by omega] at hk
  have hkl := kl_le (s.Counts.drop (zl s.Counts)) 0 (s.Counts.length - zl s.Counts)
  unfold ref08_Trim trimS
  rw [f1, flow_go, bind_some]
  dsimp only
  rw [f2, flow_go, bind_some]
  have htl : ((s.Counts.drop (zl s.Counts)).take (kl (s.Counts.drop (zl s.Counts)) 0 (s.Counts.length - zl s.Counts))).length = kl (s.Counts.drop (zl s.Counts)) 0 (s.Counts.length - zl s.Counts) := by rw [List.length_take]; omega
  by_cases h : zl s.Counts = s.Counts.length
  · rw [if_pos h, bifTd (by rw [htl]; omega)]
  · have h0 := zl_at s.Counts (by omega)
    have hgt := kl_gt (l := s.Counts) (a := zl s.Counts) (by rw [getD_lt (by omega)]; exact h0) s.Counts.length (by omega)
    rw [if_neg h, bifFd (by rw [htl]; omega), app_ok (by rw [htl]; simp; omega), bind_some, List.nil_append, hk, List.drop_take]
    congr 3; omega
theorem trim_right {s : api_Side} (h : sideE s = 0) : trimS s = s := by
  unfold sideE at h
  by_cases h1 : 160 < s.Counts.length
  · rw [if_pos h1] at h; exact absurd h (by decide)
  rw [if_neg h1] at h
  by_cases h2 : s.Counts.length = 0
  · rw [if_pos h2] at h
    by_cases h3 : s.Offset = 0
    · have hc : s.Counts = [] := List.eq_nil_of_length_eq_zero h2
      unfold trimS
      rw [hc]
      obtain ⟨o, c⟩ := s
      simp only at h3 hc; subst h3; subst hc; rfl
    · rw [if_neg h3] at h; exact absurd h (by decide)
  rw [if_neg h2] at h
  by_cases h3 : s.Counts.getD 0 0 = 0 ∨ s.Counts.getD (s.Counts.length - 1) 0 = 0
  · rw [if_pos h3] at h; exact absurd h (by decide)
  have hz : zl s.Counts = 0 := by
    match hc : s.Counts with
    | [] => rfl
    | x :: l => rw [hc] at h3; rw [zl, if_neg (by simpa using fun e => h3 (.inl e))]
  have hk : kl s.Counts 0 s.Counts.length = s.Counts.length := by
    match hn : s.Counts.length with
    | 0 => rfl
    | n + 1 => rw [kl, if_neg (fun h' => h3 (.inr (by rw [hn]; exact h'.2)))]
  unfold trimS
  rw [if_neg (by omega), hz, hk, List.take_length]
  obtain ⟨o, c⟩ := s
  simp
end Go.Lg
namespace Go.Lg
attribute [local irreducible] w64 toU64 toU8 shlU shrU shlB shrB
/-! ### right sides -/
structure RightS (s : api_Side) : Prop where
  len : s.Counts.length ≤ 160
  z : s.Counts.length = 0 → s.Offset = 0
  f : ∀ (h : 0 < s.Counts.length), s.Counts[0] ≠ 0
  e : ∀ (h : 0 < s.Counts.length), s.Counts[s.Counts.length - 1] ≠ 0
  lo : 0 < s.Counts.length → -1073741824 ≤ s.Offset
  hi : 0 < s.Counts.length → s.Offset + s.Counts.length - 1 ≤ 1073741824
theorem right_iff (s : api_Side) : sideE s = 0 ↔ RightS s := by
  unfold sideE
  by_cases h1 : 160 < s.Counts.length
  · rw [if_pos h1]; exact ⟨fun h => absurd h (by decide), fun h => by have := h.len; omega⟩
  rw [if_neg h1]
  by_cases h2 : s.Counts.length = 0
  · rw [if_pos h2]
    by_cases h3 : s.Offset = 0
    · rw [if_pos h3]; exact ⟨fun _ => ⟨by omega, fun _ => h3, fun h => by omega, fun h => by omega, fun h => by omega, fun h => by omega⟩, fun _ => rfl⟩
    · rw [if_neg h3]; exact ⟨fun h => absurd h (by decide), fun h => absurd (h.z h2) h3⟩
  rw [if_neg h2]
  by_cases h3 : s.Counts.getD 0 0 = 0 ∨ s.Counts.getD (s.Counts.length - 1) 0 = 0
  · rw [if_pos h3]
    rw [getD_lt (by omega), getD_lt (by omega)] at h3
    exact ⟨fun h => absurd h (by decide), fun h => h3.elim (fun e => absurd e (h.f (by omega))) (fun e => absurd e (h.e (by omega)))⟩
  rw [if_neg h3]
  rw [getD_lt (by omega), getD_lt (by omega)] at h3
  by_cases h5 : s.Offset < -1073741824 ∨ 1073741824 - ((s.Counts.length : Int) - 1) < s.Offset
  · rw [if_pos h5]
    exact ⟨fun h => absurd h (by decide), fun h => by have := h.lo (by omega); have := h.hi (by omega); omega⟩
  · rw [if_neg h5]
    exact ⟨fun _ => ⟨by omega, fun h => absurd h h2, fun _ => fun e => h3 (.inl e), fun _ => fun e => h3 (.inr e), fun _ => by omega, fun _ => by omega⟩, fun _ => rfl⟩
theorem RightS.off {s : api_Side} (h : RightS s) : -1100000000000 ≤ s.Offset ∧ s.Offset ≤ 1100000000000 := by
  by_cases h0 : s.Counts.length = 0
  · have := h.z h0; omega
  · have := h.lo (by omega); have := h.hi (by omega); omega
structure Good (h : api_Hist) : Prop where
  s1 : -10 ≤ h.Scale
  s2 : h.Scale ≤ 20
  p : RightS h.Pos
  n : RightS h.Neg
  t : tot h < 18446744073709551616
theorem good_iff (h : api_Hist) : histE h = 0 ↔ Good h := by
  unfold histE
  by_cases h1 : h.Scale < -10 ∨ 20 < h.Scale
  · rw [if_pos h1]; exact ⟨fun h => absurd h (by decide), fun g => by have := g.s1; have := g.s2; omega⟩
  rw [if_neg h1]
  by_cases h2 : sideE h.Pos ≠ 0
  · rw [if_pos h2]; exact ⟨fun h => absurd h h2, fun g => absurd ((right_iff _).2 g.p) h2⟩
  rw [if_neg h2]
  by_cases h3 : sideE h.Neg ≠ 0
  · rw [if_pos h3]; exact ⟨fun h => absurd h h3, fun g => absurd ((right_iff _).2 g.n) h3⟩
  rw [if_neg h3]
  by_cases h4 : tot h < 18446744073709551616
  · rw [if_pos h4]
    exact ⟨fun _ => ⟨by omega, by omega, (right_iff _).1 (Decidable.not_not.1 h2), (right_iff _).1 (Decidable.not_not.1 h3), h4⟩, fun _ => rfl⟩
  · rw [if_neg h4]; exact ⟨fun h => absurd h (by decide), fun g => absurd g.t h4⟩
theorem Good.ok {h : api_Hist} (g : Good h) : OkH h := by
  have := g.p.off; have := g.n.off; have := g.p.len; have := g.n.len; have := g.s1; have := g.s2
  exact ⟨by unfold I64; omega, by unfold I64; omega, by unfold I64; omega, by omega, by omega⟩
theorem Good.sp {h : api_Hist} (g : Good h) : su h.Pos.Counts < 18446744073709551616 := by have := g.t; unfold tot at this; omega
theorem Good.sn {h : api_Hist} (g : Good h) : su h.Neg.Counts < 18446744073709551616 := by have := g.t; unfold tot at this; omega
/-- a side's image, by 2^k -/
def DnS (k : Nat) (s t : api_Side) : Prop := (s.Counts.length = 0 ∧ t = ⟨0, []⟩) ∨ (0 < s.Counts.length ∧ Dn (2 ^ k) s t)
theorem DnS.inj {k : Nat} {s t u : api_Side} (h : DnS k s t) (h' : DnS k s u) : t = u := by
  rcases h with ⟨a, b⟩ | ⟨a, b⟩ <;> rcases h' with ⟨c, d⟩ | ⟨c, d⟩
  · rw [b, d]
  · omega
  · omega
  · exact b.inj d
theorem Dn.pos {P : Int} {s t : api_Side} (hP : 0 < P) (h : Dn P s t) (hn : 0 < s.Counts.length) : 0 < t.Counts.length := by
  have := h.l
  have := ediv_mono hP (show s.Offset ≤ s.Offset + s.Counts.length - 1 by omega)
  omega
theorem Dn.le {P : Int} {s t : api_Side} (hP : 0 < P) (h : Dn P s t) (hn : 0 < s.Counts.length) : t.Counts.length ≤ s.Counts.length := by
  have h1 := h.l
  have h3 : (s.Offset + s.Counts.length - 1) / P < s.Offset / P + s.Counts.length := by
    rw [Int.ediv_lt_iff_lt_mul hP]
    have e1 := Int.mul_ediv_add_emod s.Offset P
    have h4 : (s.Offset / P + s.Counts.length) * P = P * (s.Offset / P) + s.Counts.length * P := by rw [Int.add_mul, Int.mul_comm (s.Offset / P)]
    have h6 := Int.emod_lt_of_pos s.Offset hP
    have h8 : ((s.Counts.length : Int) - 1) * 1 ≤ (s.Counts.length - 1) * P := Int.mul_le_mul_of_nonneg_left (by omega) (by omega)
    have h9 : ((s.Counts.length : Int) - 1) * P = s.Counts.length * P - P := by rw [Int.sub_mul, Int.one_mul]
    rw [h9, Int.mul_one] at h8
    rw [h4]; omega
  omega
theorem DnS.right {k : Nat} {s t : api_Side} (hs : RightS s) (h : DnS k s t) (hb : su s.Counts < 18446744073709551616) : RightS t := by
  rcases h with ⟨a, rfl⟩ | ⟨hn, h⟩
  · exact ⟨by simp, fun _ => rfl, fun h => by simp at h, fun h => by simp at h, fun h => by simp at h, fun h => by simp at h⟩
  have hP := p2 k
  have hle := h.le hP hn
  have hpos := h.pos hP hn
  have ho := h.o
  have hl := h.l
  have hlo := hs.lo hn
  have hhi := hs.hi hn
  have d1 := div_bd hP (b := 1073741824) (by omega) (a := s.Offset) (by omega)
  have d2 := div_bd hP (b := 1073741824) (by omega) (a := s.Offset + s.Counts.length - 1) (by omega)
  refine ⟨by have := hs.len; omega, fun h => by omega, fun _ => ?_, fun _ => ?_, fun _ => by omega, fun _ => by omega⟩
  · intro e
    have h1 := h.su 1
    have h2 := su_take_succ hpos
    rw [e] at h2
    have h3 := su_take_succ hn
    have h4 := hs.f hn
    have h5 : (s.Counts[0]).toNat ≠ 0 := fun e => h4 (UInt64.toNat_inj.1 (by rw [e]; rfl))
    have h6 : 1 ≤ (2 ^ k * (t.Offset + ((1 : Nat) : Int)) - s.Offset).toNat := by
      have e1 := Int.mul_ediv_add_emod s.Offset (2 ^ k)
      have e2 := Int.emod_lt_of_pos s.Offset hP
      rw [ho, Int.mul_add]; omega
    have h7 := su_take_mono s.Counts h6
    have hz : (0 : UInt64).toNat = 0 := rfl
    simp only [Nat.zero_add, List.take_zero, su_nil] at h1 h2 h3
    omega
  · intro e
    obtain ⟨m, hm⟩ : ∃ m, t.Counts.length = m + 1 := ⟨t.Counts.length - 1, by omega⟩
    have h2 := su_take_succ (l := t.Counts) (i := t.Counts.length - 1) (by omega)
    rw [e, show t.Counts.length - 1 + 1 = t.Counts.length by omega, List.take_length] at h2
    have h1 := h.su (t.Counts.length - 1)
    have h3 := h.tot hP hn
    have h4 := su_take_succ (l := s.Counts) (i := s.Counts.length - 1) (by omega)
    rw [show s.Counts.length - 1 + 1 = s.Counts.length by omega, List.take_length] at h4
    have h5 := hs.e hn
    have h6 : (s.Counts[s.Counts.length - 1]).toNat ≠ 0 := fun e => h5 (UInt64.toNat_inj.1 (by rw [e]; rfl))
    have h7 : (2 ^ k * (t.Offset + ((t.Counts.length - 1 : Nat) : Int)) - s.Offset).toNat ≤ s.Counts.length - 1 := by
      have e1 : t.Offset + ((t.Counts.length - 1 : Nat) : Int) = (s.Offset + s.Counts.length - 1) / 2 ^ k := by omega
      have e2 : 2 ^ k * ((s.Offset + s.Counts.length - 1) / 2 ^ k) ≤ s.Offset + s.Counts.length - 1 := Int.mul_ediv_self_le (by omega)
      rw [e1]; omega
    have h8 := su_take_mono s.Counts h7
    have : (0 : UInt64).toNat = 0 := rfl
    omega
theorem DnS.comp {a b : Nat} {s t u : api_Side} (h : DnS a s t) (k : DnS b t u) : DnS (a + b) s u := by
  rcases h with ⟨x, rfl⟩ | ⟨x, y⟩
  · rcases k with ⟨_, z⟩ | ⟨z, _⟩
    · exact .inl ⟨x, z⟩
    · simp at z
  · have := y.pos (p2 a) x
    rcases k with ⟨z, _⟩ | ⟨_, z⟩
    · omega
    · exact .inr ⟨x, by rw [Int.pow_add]; exact y.comp (p2 a) (p2 b) z⟩
theorem DnS.zero {s : api_Side} (h : RightS s) : DnS 0 s s := by
  by_cases h0 : s.Counts.length = 0
  · refine .inl ⟨h0, ?_⟩
    have := h.z h0
    obtain ⟨o, c⟩ := s
    simp only at this h0
    rw [this, List.eq_nil_of_length_eq_zero h0]
  · exact .inr ⟨by omega, by simpa using Dn.id s⟩
theorem DnS.tot {k : Nat} {s t : api_Side} (h : DnS k s t) : su t.Counts = su s.Counts := by
  rcases h with ⟨a, rfl⟩ | ⟨hn, h⟩
  · rw [List.eq_nil_of_length_eq_zero a]
  · exact h.tot (p2 k) hn
theorem down_side {s : api_Side} (h : RightS s) (hb : su s.Counts < 18446744073709551616) {k : Nat} (hk : k ≤ 64) {u : UInt64} (hu : u.toNat = k) : ∃ t, hist_down s u = some t ∧ DnS k s t := by
  by_cases h0 : s.Counts.length = 0
  · refine ⟨⟨0, []⟩, ?_, .inl ⟨h0, rfl⟩⟩
    unfold hist_down
    rw [bifTd (by omega)]
  · obtain ⟨t, h1, h2⟩ := down_eq hk h.off (by omega) (by have := h.len; omega) hb hu
    exact ⟨t, h1, .inr ⟨by omega, h2⟩⟩
theorem once_side {s : api_Side} (h : RightS s) (hb : su s.Counts < 18446744073709551616) : ∃ t, ref08_once s = some t ∧ DnS 1 s t := by
  by_cases h0 : s.Counts.length = 0
  · refine ⟨⟨0, []⟩, ?_, .inl ⟨h0, rfl⟩⟩
    unfold ref08_once
    rw [loop_brk (b := (0, []))]
    · rfl
    · unfold ref08_once_lp1
      dsimp only
      rw [bifFd (by omega)]
  · obtain ⟨t, h1, h2⟩ := once_eq h.off (by omega) (by have := h.len; omega) hb
    exact ⟨t, h1, .inr ⟨by omega, by simpa using h2⟩⟩
structure DnH (k : Nat) (h g : api_Hist) : Prop where
  s : g.Scale = h.Scale - k
  z : g.Zero = h.Zero
  p : DnS k h.Pos g.Pos
  n : DnS k h.Neg g.Neg
theorem DnH.inj {k : Nat} {h g g' : api_Hist} (a : DnH k h g) (b : DnH k h g') : g = g' := by
  obtain ⟨a1, a2, a3, a4⟩ := a
  obtain ⟨b1, b2, b3, b4⟩ := b
  have c1 := a3.inj b3
  have c2 := a4.inj b4
  cases g; cases g'
  simp only at *
  subst c1; subst c2
  rw [a1, b1, a2, b2]
theorem DnH.tot {k : Nat} {h g : api_Hist} (a : DnH k h g) : Lg.tot g = Lg.tot h := by unfold Lg.tot; rw [a.z, a.p.tot, a.n.tot]
theorem DnH.good {k : Nat} {h g : api_Hist} (a : DnH k h g) (hg : Good h) (hk : (k : Int) ≤ h.Scale + 10) : Good g :=
  ⟨by have := a.s; omega, by have := a.s; have := hg.s2; omega, a.p.right hg.p hg.sp, a.n.right hg.n hg.sn, by rw [a.tot]; exact hg.t⟩
theorem DnH.comp {a b : Nat} {h g i : api_Hist} (x : DnH a h g) (y : DnH b g i) : DnH (a + b) h i :=
  ⟨by rw [y.s, x.s]; omega, by rw [y.z, x.z], x.p.comp y.p, x.n.comp y.n⟩
theorem DnH.zero {h : api_Hist} (g : Good h) : DnH 0 h h := ⟨by simp, rfl, DnS.zero g.p, DnS.zero g.n⟩
def H0 : api_Hist := ⟨0, 0, ⟨0, []⟩, ⟨0, []⟩⟩
theorem Down_ok {h : api_Hist} (g : Good h) {k : Nat} (hk : (k : Int) ≤ h.Scale + 10) : ∃ x, hist_Down h (k : Int) = some (x, 0) ∧ DnH k h x := by
  have hE := (good_iff h).2 g
  have s1 := g.s1
  have s2 := g.s2
  have e : w64 (h.Scale - (-10)) = h.Scale + 10 := by rw [w64_id] <;> omega
  have hu : (toU64 (k : Int)).toNat = k := toU64_nat (by omega)
  obtain ⟨p, p1, p2⟩ := down_side g.p g.sp (k := k) (by omega) hu
  obtain ⟨n, n1, n2⟩ := down_side g.n g.sn (k := k) (by omega) hu
  refine ⟨⟨h.Scale - k, h.Zero, p, n⟩, ?_, rfl, rfl, p2, n2⟩
  unfold hist_Down
  rw [Check_eq g.ok, bind_some, bifF (by simp [hE]), e, bifF (by simp; omega), p1, bind_some, n1, bind_some, w64_id (x := h.Scale - (k : Int)) (by omega) (by omega)]
theorem RDown_ok {h : api_Hist} (g : Good h) {k : Nat} (hk : (k : Int) ≤ h.Scale + 10) : ∃ x, ref08_Down h (k : Int) = some (x, 0) ∧ DnH k h x := by
  have hE := (good_iff h).2 g
  have s1 := g.s1
  have s2 := g.s2
  have key : ∀ (m i : Nat) (y : api_Hist), i + m = k → DnH i h y → ∃ x, loop (ref08_Down_lp1 (k : Int)) (y.Scale, y.Pos.Offset, y.Pos.Counts, y.Neg.Offset, y.Neg.Counts, (i : Int)) = some (.go (x.Scale, x.Pos.Offset, x.Pos.Counts, x.Neg.Offset, x.Neg.Counts)) ∧ DnH k h x := by
    intro m
    induction m with
    | zero =>
      intro i y hi hy
      obtain rfl : i = k := by omega
      refine ⟨y, loop_brk ?_, hy⟩
      unfold ref08_Down_lp1
      dsimp only
      rw [bifFd (by omega)]
    | succ m ih =>
      intro i y hi hy
      have gy := hy.good g (by omega)
      obtain ⟨p, p1, p2⟩ := once_side gy.p gy.sp
      obtain ⟨n, n1, n2⟩ := once_side gy.n gy.sn
      have ys1 := gy.s1
      have ys2 := gy.s2
      have hz : DnH (i + 1) h ⟨y.Scale - 1, y.Zero, p, n⟩ := hy.comp ⟨rfl, rfl, p2, n2⟩
      obtain ⟨x, x1, x2⟩ := ih (i + 1) _ (by omega) hz
      refine ⟨x, ?_, x2⟩
      rw [← x1]
      refine loop_next ?_
      have p1' : ref08_once ⟨y.Pos.Offset, y.Pos.Counts⟩ = some p := p1
      have n1' : ref08_once ⟨y.Neg.Offset, y.Neg.Counts⟩ = some n := n1
      unfold ref08_Down_lp1
      dsimp only
      rw [bifTd (by omega), p1', bind_some, n1', bind_some, lett_eq, w64_succ (by omega), w64_id (x := y.Scale - 1) (by omega) (by omega)]
  have e : w64 (h.Scale - (-10)) = h.Scale + 10 := by rw [w64_id] <;> omega
  obtain ⟨x, x1, x2⟩ := key k 0 h (by omega) (DnH.zero g)
  refine ⟨x, ?_, x2⟩
  have x1' : loop (ref08_Down_lp1 (k : Int)) (h.Scale, h.Pos.Offset, h.Pos.Counts, h.Neg.Offset, h.Neg.Counts, 0) = _ := x1
  have t1 := RTrim_eq g.p.off (by have := g.p.len; omega)
  have t2 := RTrim_eq g.n.off (by have := g.n.len; omega)
  rw [trim_right ((right_iff _).2 g.p)] at t1
  rw [trim_right ((right_iff _).2 g.n)] at t2
  unfold ref08_Down
  rw [RCheck_eq g.ok, bind_some, bifF (by simp [hE]), e, bifF (by simp; omega), t1, bind_some, t2, bind_some, bind_some, bind_some]
  dsimp only
  rw [x1', flow_go, x2.z.symm]
/-! ### which are the same -/
theorem sameSide_self {s : api_Side} (hl : s.Counts.length ≤ 1000000) : ref08_SameSide s s = some true := by
  have key : ∀ (m i : Nat), i + m = s.Counts.length → loop (ref08_SameSide_lp1 s s) (i : Int) = some (.go ()) := by
    intro m
    induction m with
    | zero =>
      intro i hi
      refine loop_brk ?_
      unfold ref08_SameSide_lp1
      rw [bifFd (by omega)]
    | succ m ih =>
      intro i hi
      rw [loop_next (s' := ((i + 1 : Nat) : Int)), ih (i + 1) (by omega)]
      unfold ref08_SameSide_lp1
      rw [bifTd (by omega), idx_nat (by omega), bind_some, bind_some, bifF (by simp), lett_eq, w64_succ (by omega)]
  have h0 : loop (ref08_SameSide_lp1 s s) 0 = _ := key s.Counts.length 0 (by omega)
  unfold ref08_SameSide
  rw [bifF (by simp), h0]; rfl
theorem same_self {h : api_Hist} (hp : h.Pos.Counts.length ≤ 1000000) (hn : h.Neg.Counts.length ≤ 1000000) : ref08_Same h h = some true := by
  unfold ref08_Same
  rw [bifT (by simp), sameSide_self hp, bind_some, bind_some, cond_true, sameSide_self hn]; rfl
/-! ### as coarse as it must be -/
end Go.Lg
namespace Go.Lg
attribute [local irreducible] w64 toU64 toU8 shlU shrU shlB shrB
/-! ### a bucket -/
def atS (s : api_Side) (i : Int) : UInt64 := if s.Offset ≤ i then s.Counts.getD (i - s.Offset).toNat 0 else 0
theorem toU64_diff {a b : Int} (ha : I64 a) (hb : I64 b) (h : b ≤ a) : (toU64 a - toU64 b).toNat = (a - b).toNat := by
  unfold I64 at ha hb
  rw [UInt64.toNat_sub]
  have e1 : (toU64 a).toNat = (a % 18446744073709551616).toNat := by
    unfold toU64
    simp only [UInt64.toNat_ofNat']
    rw [Nat.mod_eq_of_lt]; omega
  have e2 : (toU64 b).toNat = (b % 18446744073709551616).toNat := by
    unfold toU64
    simp only [UInt64.toNat_ofNat']
    rw [Nat.mod_eq_of_lt]; omega
  rw [e1, e2]; omega
theorem At_eq {s : api_Side} {i : Int} (ho : I64 s.Offset) (hi : I64 i) (hl : s.Counts.length ≤ 1000000) : hist_At s i = some (atS s i) := by
  unfold hist_At atS
  by_cases h : s.Offset ≤ i
  · rw [if_pos h]
    have hd := toU64_diff hi ho h
    have hn := toU64_nat (x := s.Counts.length) (by omega)
    by_cases hlt : (i - s.Offset).toNat < s.Counts.length
    · rw [bifF, idx_of (n := (i - s.Offset).toNat) _ hlt, bind_some, getD_lt hlt]
      · rw [w64_id] <;> unfold I64 at * <;> omega
      · rw [Bool.or_eq_false_iff]
        exact ⟨decide_eq_false (by omega), decide_eq_false (by rw [UInt64.le_iff_toNat_le, hd, hn]; omega)⟩
    · rw [bifT, List.getD_eq_getElem?_getD, List.getElem?_eq_none (by omega)]; rfl
      rw [Bool.or_eq_true]
      exact .inr (decide_eq_true (by rw [UInt64.le_iff_toNat_le, hd, hn]; omega))
  · rw [if_neg h, bifT]
    rw [Bool.or_eq_true]
    exact .inl (decide_eq_true (by omega))
theorem atS_su (s : api_Side) (i : Int) : su (s.Counts.take (i + 1 - s.Offset).toNat) = su (s.Counts.take (i - s.Offset).toNat) + (atS s i).toNat := by
  unfold atS
  by_cases h : s.Offset ≤ i
  · rw [if_pos h]
    obtain ⟨k, hk⟩ : ∃ k : Nat, i - s.Offset = k := ⟨(i - s.Offset).toNat, by omega⟩
    rw [hk, show (i + 1 - s.Offset).toNat = k + 1 by omega, show ((k : Int)).toNat = k by omega]
    by_cases hlt : k < s.Counts.length
    · rw [su_take_succ hlt, getD_lt hlt]
    · rw [su_all _ (by omega), su_all _ (by omega), List.getD_eq_getElem?_getD, List.getElem?_eq_none (by omega)]; rfl
  · rw [if_neg h, show (i + 1 - s.Offset).toNat = 0 by omega, show (i - s.Offset).toNat = 0 by omega]; rfl
/-! ### answers that the document fixes -/
/-! ### the laws -/
theorem light_eq (h : api_Hist) : ref08_Light h = some (decide ((h.Pos.Counts.length : Int) ≤ 300) && decide ((h.Neg.Counts.length : Int) ≤ 300)) := rfl
structure Is (h : api_Hist) : Prop where
  s : I64 h.Scale
  po : I64 h.Pos.Offset
  no : I64 h.Neg.Offset
theorem Is.ok {h : api_Hist} (i : Is h) (a : (h.Pos.Counts.length : Int) ≤ 300) (b : (h.Neg.Counts.length : Int) ≤ 300) : OkH h := ⟨i.s, i.po, i.no, by omega, by omega⟩
theorem H0_good : Good H0 := ⟨by decide, by decide, (right_iff _).1 (by decide), (right_iff _).1 (by decide), by decide⟩
theorem total_good {h : api_Hist} (g : Good h) : hist_Total h = some (UInt64.ofNat (tot h), true) := by
  rw [total_eq g.ok.pl g.ok.nl, if_pos g.t]
/-! ### any bucket of a side -/
end Go.Lg
namespace Go.Lg
noncomputable def fold_Merge_lp1 (r61 : api_Hist) (r62 : api_Hist) (r233 : Int) (x299 : List UInt64) : (List UInt64 × Int) → Option (Rnd (List UInt64 × Int) (List UInt64) (List UInt64)) := fun (c379, x382) =>
 bif decide (x382 < (x299.length : Int)) then
 (hist_At r61.Pos (w64 (r233 + x382))).bind fun r470 =>
 (hist_At r62.Pos (w64 (r233 + x382))).bind fun r486 =>
 (idx c379 x382).bind fun e498 =>
 lett ((r470 + r486)) fun t514 =>
 (setI c379 x382 t514).bind fun xs515 =>
 some (.next (xs515, w64 (x382 + 1)))
 else
 some (.brk c379)
noncomputable def fold_Merge_lp2 (r61 : api_Hist) (r62 : api_Hist) (r564 : Int) (x630 : List UInt64) : (List UInt64 × Int) → Option (Rnd (List UInt64 × Int) (List UInt64) (List UInt64)) := fun (c708, x711) =>
 bif decide (x711 < (x630.length : Int)) then
 (hist_At r61.Neg (w64 (r564 + x711))).bind fun r799 =>
 (hist_At r62.Neg (w64 (r564 + x711))).bind fun r815 =>
 (idx c708 x711).bind fun e827 =>
 lett ((r799 + r815)) fun t843 =>
 (setI c708 x711 t843).bind fun xs844 =>
 some (.next (xs844, w64 (x711 + 1)))
 else
 some (.brk c708)
noncomputable def fold_Merge (a0 : api_Hist) (a1 : api_Hist) : Option (api_Hist × Int) :=
 (fold_Level a0 a1).bind fun (r61, r62, r63) =>
 bif (!decide (r63 = 0)) then
 some ((api_Hist.mk 0 0 (api_Side.mk 0 []) (api_Side.mk 0 [])), r63)
 else
 (hist_Total r61).bind fun (r143, r144) =>
 (hist_Total r62).bind fun (r158, r159) =>
 lett ((add64S r143 r158 (0 : UInt64))) fun t168 =>
 lett ((add64C r143 r158 (0 : UInt64))) fun carry169 =>
 bif (!decide (carry169 = 0)) then
 some ((api_Hist.mk 0 0 (api_Side.mk 0 []) (api_Side.mk 0 [])), 4)
 else
 flow ((fold_cover r61.Pos r62.Pos).bind fun (r233, r234) =>
 bif decide (160 < r234) then
 outs (some ((api_Hist.mk 0 0 (api_Side.mk 0 []) (api_Side.mk 0 [])), 1))
 else
 bif decide (r234 = 0) then
 some (.go (0, []))
 else
 ((mk r234 (0 : UInt64)).bind fun t308 =>
 some t308).bind fun x299 =>
 (flow (loop (fold_Merge_lp1 r61 r62 r233 x299) (x299, 0)) fun c386 =>
 some c386).bind fun c371 =>
 some (.go (r233, c371))) fun (c203, c204) =>
 flow ((fold_cover r61.Neg r62.Neg).bind fun (r564, r565) =>
 bif decide (160 < r565) then
 outs (some ((api_Hist.mk 0 0 (api_Side.mk 0 []) (api_Side.mk 0 [])), 1))
 else
 bif decide (r565 = 0) then
 some (.go (0, []))
 else
 ((mk r565 (0 : UInt64)).bind fun t639 =>
 some t639).bind fun x630 =>
 (flow (loop (fold_Merge_lp2 r61 r62 r564 x630) (x630, 0)) fun c715 =>
 some c715).bind fun c700 =>
 some (.go (r564, c700))) fun (c531, c532) =>
 some ((api_Hist.mk r61.Scale (r61.Zero + r62.Zero) (api_Side.mk c203 c204) (api_Side.mk c531 c532)), 0)
noncomputable def ref09_reach (a0 : api_Side) (a1 : api_Side) : Option (Int × Int × Bool) :=
 bif ((decide ((a0.Counts.length : Int) = 0)) && (decide ((a1.Counts.length : Int) = 0))) then
 some (0, 0, false)
 else
 (bif decide ((a0.Counts.length : Int) = 0) then
 some (a1.Offset, a1.Counts)
 else
 some (a0.Offset, a0.Counts)).bind fun (c40, c41) =>
 (bif decide ((a1.Counts.length : Int) = 0) then
 some (c40, c41)
 else
 some (a1.Offset, a1.Counts)).bind fun (c60, c61) =>
 lett ((min c40 c60)) fun t85 =>
 lett (w64 ((max (w64 (c40 + (c41.length : Int))) (w64 (c60 + (c61.length : Int)))) - 1)) fun t86 =>
 some (t85, t86, true)
noncomputable def ref09_both_lp1 (a0 : api_Side) (a1 : api_Side) (r46 : Int) : (List UInt64 × Int) → Option (Rnd (List UInt64 × Int) (List UInt64) (api_Side × Bool)) := fun (c77, i80) =>
 bif decide (i80 ≤ r46) then
 (ref09_At a0 i80).bind fun r137 =>
 (ref09_At a1 i80).bind fun r152 =>
 (app c77 [(r137 + r152)]).bind fun xs169 =>
 lett (w64 (i80 + 1)) fun i194 =>
 some (.next (xs169, i194))
 else
 some (.brk c77)
noncomputable def ref09_both (a0 : api_Side) (a1 : api_Side) : Option (api_Side × Bool) :=
 (ref09_reach a0 a1).bind fun (r45, r46, r47) =>
 bif (!r47) then
 some ((api_Side.mk 0 []), true)
 else
 bif decide (160 ≤ w64 (r46 - r45)) then
 some ((api_Side.mk 0 []), false)
 else
 flow (loop (ref09_both_lp1 a0 a1 r46) ([], r45)) fun c85 =>
 some ((api_Side.mk r45 c85), true)
noncomputable def ref09_Merge (a0 : api_Hist) (a1 : api_Hist) : Option (api_Hist × Int) :=
 (ref09_Level a0 a1).bind fun r61 =>
 bif (!decide (r61.E = 0)) then
 some ((api_Hist.mk 0 0 (api_Side.mk 0 []) (api_Side.mk 0 [])), r61.E)
 else
 (ref08_Total r61.X).bind fun (r137, r138) =>
 (ref08_Total r61.Y).bind fun (r152, r153) =>
 bif decide (((18446744073709551615 : UInt64) - r152) < r137) then
 some ((api_Hist.mk 0 0 (api_Side.mk 0 []) (api_Side.mk 0 [])), 4)
 else
 (ref09_both r61.X.Pos r61.Y.Pos).bind fun (r176, r177) =>
 (ref09_both r61.X.Neg r61.Y.Neg).bind fun (r214, r215) =>
 bif ((!r177) || (!r215)) then
 some ((api_Hist.mk 0 0 (api_Side.mk 0 []) (api_Side.mk 0 [])), 1)
 else
 some ((api_Hist.mk r61.X.Scale (r61.X.Zero + r61.Y.Zero) r176 r214), 0)
end Go.Lg
namespace Go.Lg
attribute [local irreducible] w64 toU64 toU8 shlU shrU shlB shrB
/-! ### buckets -/
theorem atS_empty {s : api_Side} (h : s.Counts.length = 0) (i : Int) : atS s i = 0 := by
  unfold atS
  split
  · rw [List.getD_eq_getElem?_getD, List.getElem?_eq_none (by omega)]; rfl
  · rfl
theorem atS_out {s : api_Side} {i : Int} (h : i < s.Offset ∨ s.Offset + s.Counts.length ≤ i) : atS s i = 0 := by
  unfold atS
  split
  · rw [List.getD_eq_getElem?_getD, List.getElem?_eq_none (by omega)]; rfl
  · rfl
theorem atS_in {s : api_Side} {k : Nat} (h : k < s.Counts.length) : atS s (s.Offset + k) = s.Counts[k] := by
  unfold atS
  rw [if_pos (by omega), show (s.Offset + (k : Int) - s.Offset).toNat = k by omega, getD_lt h]
theorem atS_le (s : api_Side) (i : Int) : (atS s i).toNat ≤ su s.Counts := by
  have a := atS_su s i
  have b := su_take_le s.Counts (i + 1 - s.Offset).toNat
  omega
/-- none of its ends is empty -/
structure Tr (s : api_Side) : Prop where
  z : s.Counts.length = 0 → s.Offset = 0
  f : 0 < s.Counts.length → atS s s.Offset ≠ 0
  e : 0 < s.Counts.length → atS s (s.Offset + s.Counts.length - 1) ≠ 0
theorem RightS.tr {s : api_Side} (h : RightS s) : Tr s := by
  refine ⟨h.z, fun hp => ?_, fun hp => ?_⟩
  · have := atS_in (s := s) (k := 0) hp
    rw [show s.Offset + ((0 : Nat) : Int) = s.Offset by omega] at this
    rw [this]; exact h.f hp
  · have := atS_in (s := s) (k := s.Counts.length - 1) (by omega)
    rw [show s.Offset + ((s.Counts.length - 1 : Nat) : Int) = s.Offset + s.Counts.length - 1 by omega] at this
    rw [this]; exact h.e hp
/-! ### two sides together -/
def loS (x y : api_Side) : Int := if x.Counts.length = 0 then y.Offset else if y.Counts.length = 0 then x.Offset else min x.Offset y.Offset
def hiS (x y : api_Side) : Int := if x.Counts.length = 0 then y.Offset + y.Counts.length else if y.Counts.length = 0 then x.Offset + x.Counts.length else max (x.Offset + x.Counts.length) (y.Offset + y.Counts.length)
def onL (f : Int → UInt64) (lo : Int) (n : Nat) : List UInt64 := (List.range n).map fun (i : Nat) => f (lo + i)
theorem onL_len {f : Int → UInt64} {lo : Int} {n : Nat} : (onL f lo n).length = n := by simp [onL]
theorem onL_get {f : Int → UInt64} {lo : Int} {n i : Nat} (h : i < (onL f lo n).length) : (onL f lo n)[i] = f (lo + i) := by simp [onL]
theorem onL_at {f : Int → UInt64} {lo : Int} {n : Nat} (h0 : ∀ i, i < lo ∨ lo + n ≤ i → f i = 0) (i : Int) : atS ⟨lo, onL f lo n⟩ i = f i := by
  by_cases h : lo ≤ i ∧ i < lo + n
  · obtain ⟨k, rfl⟩ : ∃ k : Nat, i = lo + k := ⟨(i - lo).toNat, by omega⟩
    have hk : k < (onL f lo n).length := by rw [onL_len]; omega
    have := atS_in (s := ⟨lo, onL f lo n⟩) (k := k) hk
    rw [this, onL_get]
  · rw [h0 i (by omega)]
    exact atS_out (by dsimp only; rw [onL_len]; omega)
theorem onL_succ {f : Int → UInt64} {lo : Int} {n : Nat} : onL f lo (n + 1) = onL f lo n ++ [f (lo + n)] := by simp [onL, List.range_succ]
def addS (x y : api_Side) (i : Int) : UInt64 := atS x i + atS y i
def widthS (x y : api_Side) : Nat := (hiS x y - loS x y).toNat
def mergeS (x y : api_Side) : api_Side := if widthS x y = 0 then ⟨0, []⟩ else ⟨loS x y, onL (addS x y) (loS x y) (widthS x y)⟩
structure Cov (x y : api_Side) : Prop where
  le : loS x y ≤ hiS x y
  b : -1073741824 ≤ loS x y ∧ hiS x y ≤ 1073741825
  cx : 0 < x.Counts.length → loS x y ≤ x.Offset ∧ x.Offset + x.Counts.length ≤ hiS x y
  cy : 0 < y.Counts.length → loS x y ≤ y.Offset ∧ y.Offset + y.Counts.length ≤ hiS x y
  lo : loS x y = hiS x y ∨ (0 < x.Counts.length ∧ loS x y = x.Offset) ∨ (0 < y.Counts.length ∧ loS x y = y.Offset)
  hi : loS x y = hiS x y ∨ (0 < x.Counts.length ∧ hiS x y = x.Offset + x.Counts.length) ∨ (0 < y.Counts.length ∧ hiS x y = y.Offset + y.Counts.length)
  z : loS x y = hiS x y ↔ x.Counts.length = 0 ∧ y.Counts.length = 0
theorem cov {x y : api_Side} (hx : RightS x) (hy : RightS y) : Cov x y := by
  have a1 := hx.z; have a2 := hx.lo; have a3 := hx.hi
  have b1 := hy.z; have b2 := hy.lo; have b3 := hy.hi
  constructor <;> unfold loS <;> (try unfold hiS) <;> split <;> (try split) <;> omega
theorem cover_eq {x y : api_Side} (hx : RightS x) (hy : RightS y) : fold_cover x y = some (loS x y, (widthS x y : Int)) := by
  have c := cov hx hy
  have l1 := hx.len; have l2 := hy.len
  unfold widthS
  rw [Int.toNat_of_nonneg (by have := c.le; omega)]
  have hxo := hx.off; have hyo := hy.off
  unfold fold_cover
  by_cases h1 : x.Counts.length = 0
  · rw [bifTd (by omega), lett_eq]
    unfold loS hiS
    rw [if_pos h1, if_pos h1]
    congr 2; omega
  · rw [bifFd (by omega)]
    by_cases h2 : y.Counts.length = 0
    · rw [bifTd (by omega), lett_eq]
      unfold loS hiS
      rw [if_neg h1, if_pos h2, if_neg h1, if_pos h2]
      congr 2; omega
    · have e1 : fold_ends x = some (x.Offset, x.Offset + x.Counts.length) := by
        unfold fold_ends
        rw [lett_eq, w64_id (by omega) (by omega)]
      have e2 : fold_ends y = some (y.Offset, y.Offset + y.Counts.length) := by
        unfold fold_ends
        rw [lett_eq, w64_id (by omega) (by omega)]
      rw [bifFd (by omega), e1, e2, bind_some]
      dsimp only
      rw [bind_some]
      dsimp only
      rw [lett_eq, lett_eq, lett_eq]
      unfold loS hiS
      rw [if_neg h1, if_neg h2, if_neg h1, if_neg h2, w64_id (by omega) (by omega)]
theorem add_out {x y : api_Side} (c : Cov x y) (i : Int) (h : i < loS x y ∨ hiS x y ≤ i) : addS x y i = 0 := by
  have hx : atS x i = 0 := by
    by_cases hp : 0 < x.Counts.length
    · have := c.cx hp; exact atS_out (by omega)
    · exact atS_empty (by omega) i
  have hy : atS y i = 0 := by
    by_cases hp : 0 < y.Counts.length
    · have := c.cy hp; exact atS_out (by omega)
    · exact atS_empty (by omega) i
  unfold addS; rw [hx, hy]; rfl
theorem merge_at {x y : api_Side} (c : Cov x y) (i : Int) : atS (mergeS x y) i = addS x y i := by
  have := c.le
  unfold mergeS
  split
  · rename_i h
    unfold widthS at h
    rw [add_out c i (by omega)]
    exact atS_empty rfl i
  · exact onL_at (fun j hj => add_out c j (by unfold widthS at hj; omega)) i
theorem add_nat {x y : api_Side} (hs : su x.Counts + su y.Counts < 18446744073709551616) (i : Int) : (addS x y i).toNat = (atS x i).toNat + (atS y i).toNat := by
  have a := atS_le x i; have b := atS_le y i
  unfold addS
  rw [UInt64.toNat_add, Nat.mod_eq_of_lt (by omega)]
theorem u_ne {a : UInt64} (h : a ≠ 0) : 1 ≤ a.toNat := by
  have : a.toNat ≠ 0 := fun e => h (UInt64.toNat_inj.1 (by rw [e]; rfl))
  omega
theorem ne_u {a : UInt64} (h : 1 ≤ a.toNat) : a ≠ 0 := by
  rintro rfl
  exact absurd h (by decide)
theorem merge_right {x y : api_Side} (hx : RightS x) (hy : RightS y) (hs : su x.Counts + su y.Counts < 18446744073709551616) (hw : widthS x y ≤ 160) : RightS (mergeS x y) := by
  have c := cov hx hy
  have cle := c.le
  have hat := merge_at c
  have hlo : 0 < widthS x y → addS x y (loS x y) ≠ 0 := by
    intro hp
    unfold widthS at hp
    apply ne_u
    rw [add_nat hs]
    rcases c.lo with e | ⟨e1, e2⟩ | ⟨e1, e2⟩
    · omega
    · have := u_ne (hx.tr.f e1); rw [e2]; omega
    · have := u_ne (hy.tr.f e1); rw [e2]; omega
  have hhi : 0 < widthS x y → addS x y (hiS x y - 1) ≠ 0 := by
    intro hp
    unfold widthS at hp
    apply ne_u
    rw [add_nat hs]
    rcases c.hi with e | ⟨e1, e2⟩ | ⟨e1, e2⟩
    · omega
    · have := u_ne (hx.tr.e e1); rw [e2]; omega
    · have := u_ne (hy.tr.e e1); rw [e2]; omega
  have cb := c.b
  unfold mergeS
  by_cases hz : widthS x y = 0
  · rw [if_pos hz]
    exact ⟨by simp, fun _ => rfl, fun h => by simp at h, fun h => by simp at h, fun h => by simp at h, fun h => by simp at h⟩
  · rw [if_neg hz]
    have hw' : (widthS x y : Int) = hiS x y - loS x y := by unfold widthS; omega
    refine ⟨by dsimp only; rw [onL_len]; exact hw, fun h => ?_, fun h => ?_, fun h => ?_, fun _ => ?_, fun _ => ?_⟩
    · dsimp only at h; rw [onL_len] at h; exact absurd h hz
    · dsimp only
      rw [onL_get, show loS x y + ((0 : Nat) : Int) = loS x y by omega]
      exact hlo (by omega)
    · dsimp only
      rw [onL_get]
      simp only [onL_len]
      rw [show loS x y + ((widthS x y - 1 : Nat) : Int) = hiS x y - 1 by omega]
      exact hhi (by omega)
    · exact cb.1
    · dsimp only; rw [onL_len]; omega
theorem merge_su {x y : api_Side} (hx : RightS x) (hy : RightS y) (hs : su x.Counts + su y.Counts < 18446744073709551616) : su (mergeS x y).Counts = su x.Counts + su y.Counts := by
  have c := cov hx hy
  have cle := c.le
  unfold mergeS
  by_cases hz : widthS x y = 0
  · rw [if_pos hz]
    have : loS x y = hiS x y := by unfold widthS at hz; omega
    have := c.z.1 this
    rw [List.eq_nil_of_length_eq_zero this.1, List.eq_nil_of_length_eq_zero this.2]; rfl
  · rw [if_neg hz]
    have hw' : (widthS x y : Int) = hiS x y - loS x y := by unfold widthS; omega
    have S0 : ∀ s : api_Side, (0 < s.Counts.length → loS x y ≤ s.Offset ∧ s.Offset + s.Counts.length ≤ hiS x y) →
        su (s.Counts.take (loS x y - s.Offset).toNat) = 0 ∧ su (s.Counts.take (hiS x y - s.Offset).toNat) = su s.Counts := by
      intro s h
      by_cases hp : 0 < s.Counts.length
      · have := h hp
        rw [show (loS x y - s.Offset).toNat = 0 by omega, su_all _ (show s.Counts.length ≤ (hiS x y - s.Offset).toNat by omega)]
        exact ⟨rfl, rfl⟩
      · rw [List.eq_nil_of_length_eq_zero (by omega : s.Counts.length = 0)]; simp [su_nil]
    have key : ∀ j : Nat, su (onL (addS x y) (loS x y) j) = su (x.Counts.take (loS x y + j - x.Offset).toNat) + su (y.Counts.take (loS x y + j - y.Offset).toNat) := by
      intro j
      induction j with
      | zero =>
        have h1 := (S0 x c.cx).1
        have h2 := (S0 y c.cy).1
        rw [show loS x y + ((0 : Nat) : Int) = loS x y by omega, h1, h2]; rfl
      | succ j ih =>
        rw [onL_succ, su_snoc, ih, add_nat hs]
        have h1 := atS_su x (loS x y + j)
        have h2 := atS_su y (loS x y + j)
        rw [show loS x y + ((j + 1 : Nat) : Int) = loS x y + j + 1 by omega, h1, h2]; omega
    have h := key (widthS x y)
    rw [show loS x y + (widthS x y : Int) = hiS x y by omega, (S0 x c.cx).2, (S0 y c.cy).2] at h
    exact h
end Go.Lg
namespace Go.Lg
attribute [local irreducible] w64 toU64 toU8 shlU shrU shlB shrB
/-! ### to one scale -/
structure Lev (a b x y : api_Hist) : Prop where
  ga : Good a
  gb : Good b
  dx : DnH (a.Scale - min a.Scale b.Scale).toNat a x
  dy : DnH (b.Scale - min a.Scale b.Scale).toNat b y
theorem Lev.gx {a b x y : api_Hist} (l : Lev a b x y) : Good x := l.dx.good l.ga (by have := l.ga.s1; have := l.gb.s1; omega)
theorem Lev.gy {a b x y : api_Hist} (l : Lev a b x y) : Good y := l.dy.good l.gb (by have := l.ga.s1; have := l.gb.s1; omega)
theorem Lev.sx {a b x y : api_Hist} (l : Lev a b x y) : x.Scale = min a.Scale b.Scale := by have := l.dx.s; omega
theorem Lev.sy {a b x y : api_Hist} (l : Lev a b x y) : y.Scale = min a.Scale b.Scale := by have := l.dy.s; omega
theorem Level_eq {a b : api_Hist} (oa : OkH a) (ob : OkH b) :
    (∃ e, e ≠ 0 ∧ fold_Level a b = some (H0, H0, e) ∧ ref09_Level a b = some ⟨H0, H0, e⟩ ∧ (histE a ≠ 0 ∨ histE b ≠ 0)) ∨ ∃ x y, fold_Level a b = some (x, y, 0) ∧ ref09_Level a b = some ⟨x, y, 0⟩ ∧ Lev a b x y := by
  have r0 : fold_Level_lp1 a b ((0 : Nat) : Int) = if histE a ≠ 0 then some (.out (.out (H0, H0, histE a))) else some (.next ((1 : Nat) : Int)) := by
    unfold fold_Level_lp1
    rw [bifTd (by omega), idx_nat (by simp), bind_some]
    dsimp only [List.getElem_cons_zero]
    rw [Check_eq oa, bind_some]
    by_cases e : histE a = 0
    · rw [if_neg (fun h => h e), bifF (by simp [e]), w64_succ (by omega)]
    · rw [if_pos e, bifT (by simp [e])]; rfl
  have r1 : fold_Level_lp1 a b ((1 : Nat) : Int) = if histE b ≠ 0 then some (.out (.out (H0, H0, histE b))) else some (.next ((2 : Nat) : Int)) := by
    unfold fold_Level_lp1
    rw [bifTd (by omega), idx_nat (by simp), bind_some]
    dsimp only [List.getElem_cons_succ, List.getElem_cons_zero]
    rw [Check_eq ob, bind_some]
    by_cases e : histE b = 0
    · rw [if_neg (fun h => h e), bifF (by simp [e]), w64_succ (by omega)]
    · rw [if_pos e, bifT (by simp [e])]; rfl
  have r2 : fold_Level_lp1 a b ((2 : Nat) : Int) = some (.brk ()) := by
    unfold fold_Level_lp1
    rw [bifFd (by omega)]
  have hL : loop (fold_Level_lp1 a b) 0 = loop (fold_Level_lp1 a b) ((0 : Nat) : Int) := rfl
  unfold fold_Level ref09_Level
  rw [hL, RCheck_eq oa, RCheck_eq ob, bind_some, bind_some]
  by_cases ha : histE a = 0
  case neg =>
    rw [if_pos ha] at r0
    refine .inl ⟨histE a, ha, ?_, ?_, .inl ha⟩
    · rw [loop_out r0]; rfl
    · rw [bifT (by simp [ha])]; rfl
  rw [if_neg (fun h => h ha)] at r0
  rw [loop_next r0, bifF (by simp [ha])]
  by_cases hb : histE b = 0
  case neg =>
    rw [if_pos hb] at r1
    refine .inl ⟨histE b, hb, ?_, ?_, .inr hb⟩
    · rw [loop_out r1]; rfl
    · rw [bifT (by simp [hb])]; rfl
  rw [if_neg (fun h => h hb)] at r1
  have ga := (good_iff a).1 ha
  have gb := (good_iff b).1 hb
  have a1 := ga.s1; have a2 := ga.s2; have b1 := gb.s1; have b2 := gb.s2
  have e1 : w64 (a.Scale - min a.Scale b.Scale) = ((a.Scale - min a.Scale b.Scale).toNat : Int) := by rw [w64_id] <;> omega
  have e2 : w64 (b.Scale - min a.Scale b.Scale) = ((b.Scale - min a.Scale b.Scale).toNat : Int) := by rw [w64_id] <;> omega
  have em : (bif decide (b.Scale < a.Scale) then some b.Scale else some a.Scale) = some (min a.Scale b.Scale) := by
    by_cases h : b.Scale < a.Scale
    · rw [bifTd h]; congr 1; omega
    · rw [bifFd h]; congr 1; omega
  obtain ⟨x, x1, x2⟩ := Down_ok ga (k := (a.Scale - min a.Scale b.Scale).toNat) (by omega)
  obtain ⟨y, y1, y2⟩ := Down_ok gb (k := (b.Scale - min a.Scale b.Scale).toNat) (by omega)
  obtain ⟨x', x1', x2'⟩ := RDown_ok ga (k := (a.Scale - min a.Scale b.Scale).toNat) (by omega)
  obtain ⟨y', y1', y2'⟩ := RDown_ok gb (k := (b.Scale - min a.Scale b.Scale).toNat) (by omega)
  obtain rfl := x2.inj x2'
  obtain rfl := y2.inj y2'
  refine .inr ⟨x, y, ?_, ?_, ⟨ga, gb, x2, y2⟩⟩
  · rw [loop_next r1, loop_brk r2, flow_go, flow_go, lett_eq, e1, e2, x1, bind_some]
    dsimp only
    rw [y1, bind_some]
  · rw [bifF (by simp [hb]), em, bind_some, e1, e2, x1', bind_some]
    dsimp only
    rw [y1', bind_some]
/-! ### put together -/
noncomputable def mlp (A B : api_Side) (o : Int) (x : List UInt64) : (List UInt64 × Int) → Option (Rnd (List UInt64 × Int) (List UInt64) (List UInt64)) := fun (c, i) =>
  bif decide (i < (x.length : Int)) then
    (hist_At A (w64 (o + i))).bind fun p => (hist_At B (w64 (o + i))).bind fun q => (idx c i).bind fun _e => lett (p + q) fun t => (setI c i t).bind fun xs => some (.next (xs, w64 (i + 1)))
  else some (.brk c)
theorem mlp_eq {x y : api_Side} (hx : RightS x) (hy : RightS y) (l : List UInt64) (hl : l.length = widthS x y) (c0 : List UInt64) (hc : c0.length = widthS x y) :
    loop (mlp x y (loS x y) l) (c0, 0) = some (.go (onL (addS x y) (loS x y) (widthS x y))) := by
  have c := cov hx hy
  have cb := c.b
  have cle := c.le
  have hw : (widthS x y : Int) = hiS x y - loS x y := by unfold widthS; omega
  have hxo := hx.off; have hyo := hy.off
  have key : ∀ (m i : Nat) (z : List UInt64), i + m = widthS x y → z.length = widthS x y → z.take i = onL (addS x y) (loS x y) i → loop (mlp x y (loS x y) l) (z, (i : Int)) = some (.go (onL (addS x y) (loS x y) (widthS x y))) := by
    intro m
    induction m with
    | zero =>
      intro i z hi hz ht
      refine loop_brk ?_
      unfold mlp
      dsimp only
      rw [bifFd (by omega)]
      obtain rfl : i = widthS x y := by omega
      rw [List.take_of_length_le (by omega)] at ht
      rw [ht]
    | succ m ih =>
      intro i z hi hz ht
      have hlt : i < z.length := by omega
      have e1 : w64 (loS x y + (i : Int)) = loS x y + i := w64_id (by omega) (by omega)
      have i1 : I64 (loS x y + i) := by unfold I64; omega
      have hb : addS x y (loS x y + i) = atS x (loS x y + i) + atS y (loS x y + i) := rfl
      rw [← ih (i + 1) (z.set i (addS x y (loS x y + i))) (by omega) (by simpa using hz) (by
        rw [take_snoc (by simpa using hlt), onL_succ, List.take_set_of_le (Nat.le_refl i), ht, List.getElem_set_self])]
      refine loop_next ?_
      unfold mlp
      dsimp only
      rw [bifTd (by omega), e1, At_eq (by unfold I64; omega) i1 (by have := hx.len; omega), bind_some, At_eq (by unfold I64; omega) i1 (by have := hy.len; omega), bind_some, idx_nat hlt, bind_some, lett_eq, setI_nat hlt, bind_some, w64_succ (by omega), hb]
  exact key (widthS x y) 0 c0 (by omega) hc (by simp [onL])
/-- a side of the sum, or that it is too wide -/
noncomputable def part (p : Option (Int × Int)) (F : Int → Int → Option (Flow (Int × List UInt64) (api_Hist × Int))) : Option (Flow (Int × List UInt64) (api_Hist × Int)) := p.bind fun (a, b) => F a b
theorem merge_side {x y : api_Side} (hx : RightS x) (hy : RightS y) (lp : Int → List UInt64 → (List UInt64 × Int) → Option (Rnd (List UInt64 × Int) (List UInt64) (List UInt64))) (hlp : ∀ o l, lp o l = mlp x y o l) :
    ((fold_cover x y).bind fun (r233, r234) =>
     bif decide (160 < r234) then
      outs (some ((api_Hist.mk 0 0 (api_Side.mk 0 []) (api_Side.mk 0 [])), (1 : Int)))
     else
     bif decide (r234 = 0) then
      some (.go ((0 : Int), []))
     else
     ((mk r234 (0 : UInt64)).bind fun t308 =>
     some t308).bind fun x299 =>
     (flow (loop (lp r233 x299) (x299, 0)) fun c386 =>
     some c386).bind fun c371 =>
     some (.go (r233, c371))) = if 160 < widthS x y then some (.out (H0, 1)) else some (.go ((mergeS x y).Offset, (mergeS x y).Counts)) := by
  rw [cover_eq hx hy, bind_some]
  dsimp only
  by_cases h : 160 < widthS x y
  · rw [if_pos h, bifTd (by omega)]; rfl
  · rw [if_neg h, bifFd (by omega)]
    unfold mergeS
    by_cases hz : widthS x y = 0
    · rw [bifTd (by omega), if_pos hz]
    · have hm : mk (widthS x y : Int) (0 : UInt64) = some (List.replicate (widthS x y) 0) := by
        unfold mk LIM
        rw [if_pos (by omega)]; simp
      rw [bifFd (by omega), if_neg hz, hm, bind_some, bind_some, hlp, mlp_eq hx hy _ (by simp) _ (by simp), flow_go, bind_some]
def sumH (x y : api_Hist) : api_Hist := ⟨x.Scale, x.Zero + y.Zero, mergeS x.Pos y.Pos, mergeS x.Neg y.Neg⟩
/-- what comes of two that were brought to one scale -/
def mergeE (x y : api_Hist) : api_Hist × Int :=
  if 18446744073709551616 ≤ tot x + tot y then (H0, 4) else if 160 < widthS x.Pos y.Pos ∨ 160 < widthS x.Neg y.Neg then (H0, 1) else (sumH x y, 0)
theorem add64C_iff (a b : Nat) (ha : a < 18446744073709551616) (hb : b < 18446744073709551616) : add64C (UInt64.ofNat a) (UInt64.ofNat b) 0 = 0 ↔ a + b < 18446744073709551616 := by
  have z : (0 : UInt64).toNat = 0 := rfl
  have ea : (UInt64.ofNat a).toNat = a := by rw [UInt64.toNat_ofNat']; omega
  have eb : (UInt64.ofNat b).toNat = b := by rw [UInt64.toNat_ofNat']; omega
  have e : (add64C (UInt64.ofNat a) (UInt64.ofNat b) 0).toNat = (a + b) / 18446744073709551616 := by
    unfold add64C
    rw [ea, eb, z, Nat.add_zero, UInt64.toNat_ofNat']; omega
  rw [← UInt64.toNat_inj, e, z]; omega
theorem Merge_lev {a b x y : api_Hist} (h : fold_Level a b = some (x, y, 0)) (gx : Good x) (gy : Good y) : fold_Merge a b = some (mergeE x y) := by
  unfold fold_Merge
  rw [h, bind_some]
  dsimp only
  rw [bifF (by rfl), total_good gx, bind_some]
  dsimp only
  rw [total_good gy, bind_some]
  dsimp only
  rw [lett_eq, lett_eq]
  have hc := add64C_iff (tot x) (tot y) gx.t gy.t
  unfold mergeE
  by_cases h1 : 18446744073709551616 ≤ tot x + tot y
  · rw [if_pos h1, bifT]; rfl
    rw [Bool.not_eq_true', decide_eq_false_iff_not, hc]; omega
  · rw [if_neg h1, bifF (by rw [Bool.not_eq_false', decide_eq_true_eq, hc]; omega)]
    have m1 := merge_side gx.p gy.p (fold_Merge_lp1 x y) (fun _ _ => rfl)
    have m2 := merge_side gx.n gy.n (fold_Merge_lp2 x y) (fun _ _ => rfl)
    rw [m1, m2]
    by_cases h2 : 160 < widthS x.Pos y.Pos
    · rw [if_pos h2, if_pos (Or.inl h2 : 160 < widthS x.Pos y.Pos ∨ 160 < widthS x.Neg y.Neg)]; rfl
    · rw [if_neg h2, flow_go]
      dsimp only
      by_cases h3 : 160 < widthS x.Neg y.Neg
      · rw [if_pos h3, if_pos (Or.inr h3 : 160 < widthS x.Pos y.Pos ∨ 160 < widthS x.Neg y.Neg)]; rfl
      · rw [if_neg h3, if_neg (by omega), flow_go]; rfl
end Go.Lg
namespace Go.Lg
attribute [local irreducible] w64 toU64 toU8 shlU shrU shlB shrB
/-! ### without empty ends -/
theorem atS_getD {s : api_Side} {i : Int} (h : s.Offset ≤ i) : atS s i = s.Counts.getD (i - s.Offset).toNat 0 := by unfold atS; rw [if_pos h]
/-! ### the document's way to put together -/
theorem RAt_eq {s : api_Side} (h : RightS s) {i : Int} (hi : -2000000000 ≤ i ∧ i ≤ 2000000000) : ref09_At s i = some (atS s i) := by
  have o := h.off; have l := h.len
  have e : w64 (s.Offset + s.Counts.length) = s.Offset + s.Counts.length := w64_id (by omega) (by omega)
  unfold ref09_At
  rw [e]
  by_cases hin : s.Offset ≤ i ∧ i < s.Offset + s.Counts.length
  · have e2 : w64 (i - s.Offset) = ((i - s.Offset).toNat : Int) := by rw [w64_id] <;> omega
    rw [bifF (by rw [Bool.or_eq_false_iff]; exact ⟨decide_eq_false (by omega), decide_eq_false (by omega)⟩), e2, idx_nat (by omega), bind_some, atS_getD hin.1, getD_lt (by omega)]
  · rw [bifT (by rw [Bool.or_eq_true, decide_eq_true_eq, decide_eq_true_eq]; omega), atS_out (by omega)]
theorem reach_eq {x y : api_Side} (hx : RightS x) (hy : RightS y) : ref09_reach x y = some (if loS x y = hiS x y then (0, 0, false) else (loS x y, hiS x y - 1, true)) := by
  have c := cov hx hy
  have hxo := hx.off; have hyo := hy.off; have l1 := hx.len; have l2 := hy.len
  unfold ref09_reach
  by_cases h : x.Counts.length = 0 ∧ y.Counts.length = 0
  · rw [bifT (by simp [h.1, h.2]), if_pos (c.z.2 h)]
  · rw [bifF (by rw [← Bool.decide_and]; exact decide_eq_false (by omega)), if_neg (fun e => h (c.z.1 e))]
    have ex : w64 (x.Offset + x.Counts.length) = x.Offset + x.Counts.length := w64_id (by omega) (by omega)
    have ey : w64 (y.Offset + y.Counts.length) = y.Offset + y.Counts.length := w64_id (by omega) (by omega)
    by_cases h1 : x.Counts.length = 0
    · rw [bifTd (by omega), bind_some]
      dsimp only
      rw [bifFd (by omega), bind_some]
      dsimp only
      rw [lett_eq, lett_eq, ey, w64_id (by omega) (by omega)]
      unfold loS hiS
      rw [if_pos h1, if_pos h1]
      congr 2 <;> (try congr 1) <;> omega
    · rw [bifFd (by omega), bind_some]
      dsimp only
      by_cases h2 : y.Counts.length = 0
      · rw [bifTd (by omega), bind_some]
        dsimp only
        rw [lett_eq, lett_eq, ex, w64_id (by omega) (by omega)]
        unfold loS hiS
        rw [if_neg h1, if_pos h2, if_neg h1, if_pos h2]
        congr 2 <;> (try congr 1) <;> omega
      · rw [bifFd (by omega), bind_some]
        dsimp only
        rw [lett_eq, lett_eq, ex, ey, w64_id (by omega) (by omega)]
        unfold loS hiS
        rw [if_neg h1, if_neg h2, if_neg h1, if_neg h2]
theorem both_eq {x y : api_Side} (hx : RightS x) (hy : RightS y) : ref09_both x y = some (if 160 < widthS x y then (⟨0, []⟩, false) else (mergeS x y, true)) := by
  have c := cov hx hy
  have cb := c.b
  have cle := c.le
  have hw : (widthS x y : Int) = hiS x y - loS x y := by unfold widthS; omega
  unfold ref09_both
  rw [reach_eq hx hy, bind_some]
  by_cases h0 : loS x y = hiS x y
  · rw [if_pos h0, if_neg (by omega)]
    dsimp only
    rw [bifT (by rfl)]
    unfold mergeS
    rw [if_pos (by omega)]
  · rw [if_neg h0]
    dsimp only
    rw [bifF (by rfl), w64_id (x := hiS x y - 1 - loS x y) (by omega) (by omega)]
    by_cases h1 : 160 < widthS x y
    · rw [if_pos h1, bifTd (by omega)]
    · rw [if_neg h1, bifFd (by omega)]
      have key : ∀ (m i : Nat), i + m = widthS x y → loop (ref09_both_lp1 x y (hiS x y - 1)) (onL (addS x y) (loS x y) i, loS x y + (i : Int)) = some (.go (onL (addS x y) (loS x y) (widthS x y))) := by
        intro m
        induction m with
        | zero =>
          intro i hi
          obtain rfl : i = widthS x y := by omega
          refine loop_brk ?_
          unfold ref09_both_lp1
          dsimp only
          rw [bifFd (by omega)]
        | succ m ih =>
          intro i hi
          rw [← ih (i + 1) (by omega)]
          refine loop_next ?_
          have hb : addS x y (loS x y + i) = atS x (loS x y + i) + atS y (loS x y + i) := rfl
          unfold ref09_both_lp1
          dsimp only
          rw [bifTd (by omega), RAt_eq hx (by omega), bind_some, RAt_eq hy (by omega), bind_some, app_ok (by rw [onL_len]; simp; omega), bind_some, lett_eq, onL_succ, hb, w64_id (x := loS x y + (i : Int) + 1) (by omega) (by omega), show loS x y + (i : Int) + 1 = loS x y + ((i + 1 : Nat) : Int) by omega]
      have k0 := key (widthS x y) 0 (by omega)
      rw [show loS x y + ((0 : Nat) : Int) = loS x y by omega] at k0
      have k0' : loop (ref09_both_lp1 x y (hiS x y - 1)) ([], loS x y) = _ := k0
      rw [k0', flow_go]
      unfold mergeS
      rw [if_neg (by omega)]
theorem u_lt {m n : Nat} (hm : m < 18446744073709551616) (hn : n < 18446744073709551616) : ((18446744073709551615 : UInt64) - UInt64.ofNat n < UInt64.ofNat m) ↔ 18446744073709551616 ≤ m + n := by
  have em : (UInt64.ofNat m).toNat = m := by rw [UInt64.toNat_ofNat']; omega
  have en : (UInt64.ofNat n).toNat = n := by rw [UInt64.toNat_ofNat']; omega
  have e9 : (18446744073709551615 : UInt64).toNat = 18446744073709551615 := rfl
  rw [UInt64.lt_iff_toNat_lt, UInt64.toNat_sub, em, en, e9]; omega
theorem RMerge_lev {a b x y : api_Hist} (h : ref09_Level a b = some ⟨x, y, 0⟩) (gx : Good x) (gy : Good y) : ref09_Merge a b = some (mergeE x y) := by
  unfold ref09_Merge
  rw [h, bind_some]
  dsimp only
  rw [bifF (by rfl), refTotal_eq gx.ok.pl gx.ok.nl, if_pos gx.t, bind_some]
  dsimp only
  rw [refTotal_eq gy.ok.pl gy.ok.nl, if_pos gy.t, bind_some]
  dsimp only
  unfold mergeE
  by_cases h1 : 18446744073709551616 ≤ tot x + tot y
  · rw [if_pos h1, bifTd ((u_lt gx.t gy.t).2 h1)]; rfl
  · rw [if_neg h1, bifFd (fun e => h1 ((u_lt gx.t gy.t).1 e)), both_eq gx.p gy.p, both_eq gx.n gy.n, bind_some]
    by_cases h2 : 160 < widthS x.Pos y.Pos
    · rw [if_pos h2, if_pos (Or.inl h2 : 160 < widthS x.Pos y.Pos ∨ 160 < widthS x.Neg y.Neg)]
      dsimp only
      rw [bind_some]
      generalize (if 160 < widthS x.Neg y.Neg then ((⟨0, []⟩ : api_Side), false) else (mergeS x.Neg y.Neg, true)) = p
      obtain ⟨p, q⟩ := p
      rfl
    · rw [if_neg h2]
      dsimp only
      rw [bind_some]
      by_cases h3 : 160 < widthS x.Neg y.Neg
      · rw [if_pos h3, if_pos (Or.inr h3 : 160 < widthS x.Pos y.Pos ∨ 160 < widthS x.Neg y.Neg)]; rfl
      · rw [if_neg h3, if_neg (by omega)]; rfl
end Go.Lg
namespace Go.Lg
attribute [local irreducible] w64 toU64 toU8 shlU shrU shlB shrB
/-! ### taken away -/
def enough (x y : api_Side) : Bool := (List.range y.Counts.length).all fun (k : Nat) => decide (y.Counts.getD k 0 ≤ atS x (y.Offset + k))
end Go.Lg
namespace Go.Lg
attribute [local irreducible] w64 toU64 toU8 shlU shrU shlB shrB
theorem Level_good {a b : api_Hist} (ga : Good a) (gb : Good b) : ∃ x y, fold_Level a b = some (x, y, 0) ∧ ref09_Level a b = some ⟨x, y, 0⟩ ∧ Lev a b x y := by
  rcases Level_eq ga.ok gb.ok with ⟨e, _, _, _, h⟩ | h
  · rcases h with h | h
    · exact absurd ((good_iff a).2 ga) h
    · exact absurd ((good_iff b).2 gb) h
  · exact h
end Go.Lg
namespace Go.Lg
attribute [local irreducible] w64 toU64 toU8 shlU shrU shlB shrB
/-- how much lies below place i -/
def cum (s : api_Side) (i : Int) : Nat := su (s.Counts.take (i - s.Offset).toNat)
theorem lev_same {x y : api_Hist} (gx : Good x) (gy : Good y) (hs : x.Scale = y.Scale) : fold_Level x y = some (x, y, 0) ∧ ref09_Level x y = some ⟨x, y, 0⟩ := by
  obtain ⟨x', y', h1, h2, l⟩ := Level_good gx gy
  have e1 : (x.Scale - min x.Scale y.Scale).toNat = 0 := by omega
  have e2 : (y.Scale - min x.Scale y.Scale).toNat = 0 := by omega
  have dx := l.dx
  have dy := l.dy
  rw [e1] at dx
  rw [e2] at dy
  have := dx.inj (DnH.zero gx)
  have := dy.inj (DnH.zero gy)
  subst_vars
  exact ⟨h1, h2⟩
theorem sumH_tot {x y : api_Hist} (gx : Good x) (gy : Good y) (h : tot x + tot y < 18446744073709551616) : tot (sumH x y) = tot x + tot y := by
  have h1 := gx.sp; have h2 := gx.sn
  unfold tot at *
  unfold sumH
  dsimp only
  rw [merge_su gx.p gy.p (by omega), merge_su gx.n gy.n (by omega), UInt64.toNat_add, Nat.mod_eq_of_lt (by omega)]
  omega
theorem sumH_good {x y : api_Hist} (gx : Good x) (gy : Good y) (h : tot x + tot y < 18446744073709551616) (hp : widthS x.Pos y.Pos ≤ 160) (hn : widthS x.Neg y.Neg ≤ 160) : Good (sumH x y) := by
  have ht := sumH_tot gx gy h
  refine ⟨gx.s1, gx.s2, merge_right gx.p gy.p ?_ hp, merge_right gx.n gy.n ?_ hn, by rw [ht]; exact h⟩
  · unfold tot at h; omega
  · unfold tot at h; omega
/-! ### what some histograms come to, at a scale -/
def sumN (f : api_Hist → Nat) (l : List api_Hist) : Nat := (l.map f).sum
def fac (x z : api_Hist) (i : Int) : Int := 2 ^ (x.Scale - z.Scale).toNat * i
structure Sums (l : List api_Hist) (z : api_Hist) : Prop where
  good : Good z
  all : ∀ x ∈ l, Good x ∧ z.Scale ≤ x.Scale
  zero : z.Zero.toNat = sumN (fun x => x.Zero.toNat) l
  pos : ∀ i, cum z.Pos i = sumN (fun x => cum x.Pos (fac x z i)) l
  neg : ∀ i, cum z.Neg i = sumN (fun x => cum x.Neg (fac x z i)) l
/-! ### what is taken away -/
end Go.Lg
namespace Go.Lg
noncomputable def num_Odd (a0 : UInt64) : Option Bool :=
 lett (decide (9218868437227405312 < (a0 &&& ~~~(9223372036854775808 : UInt64)))) fun t11 =>
 some t11
noncomputable def num_Canon (a0 : UInt64) : Option UInt64 :=
 (num_Odd a0).bind fun r11 =>
 bif r11 then
 some 9221120237041090561
 else
 some a0
noncomputable def num_Add (a0 : UInt64) (a1 : UInt64) : Option UInt64 :=
  some (fAdd a0 a1)
noncomputable def num_Sub (a0 : UInt64) (a1 : UInt64) : Option UInt64 :=
  some (fSub a0 a1)
noncomputable def num_Less (a0 : UInt64) (a1 : UInt64) : Option Bool :=
  some (fLess a0 a1)
noncomputable def ref05_Odd (a0 : UInt64) : Option Bool :=
 lett (((decide (((a0 / 4503599627370496) % 2048) = 2047)) && (!decide ((a0 % 4503599627370496) = 0)))) fun t12 =>
 some t12
noncomputable def ref05_Finite (a0 : UInt64) : Option Bool :=
 lett ((!decide (((a0 / 4503599627370496) % 2048) = 2047))) fun t11 =>
 some t11
noncomputable def ref05_wide (a0 : UInt64) : Option (UInt64 × Int) :=
 lett (w64 (((a0 / 4503599627370496) % 2048).toNat : Int)) fun e11 =>
 lett ((a0 % 4503599627370496)) fun m12 =>
 bif decide (e11 = 0) then
 some (m12, 1)
 else
 lett ((m12 + 4503599627370496)) fun t15 =>
 some (t15, e11)
noncomputable def ref05_shifted_lp1 (a1 : Int) : (UInt64 × Int) → Option (Rnd (UInt64 × Int) UInt64 UInt64) := fun (m11, i12) =>
 bif decide (i12 < a1) then
 bif decide (m11 < 2) then
 outr (some m11)
 else
 lett (((m11 / 2) ||| (m11 % 2))) fun m23 =>
 lett (w64 (i12 + 1)) fun i24 =>
 some (.next (m23, i24))
 else
 some (.brk m11)
noncomputable def ref05_shifted (a0 : UInt64) (a1 : Int) : Option UInt64 :=
 flow (loop (ref05_shifted_lp1 a1) (a0, 0)) fun m13 =>
 some m13
noncomputable def ref05_round_lp1 : (UInt64 × Int) → Option (Rnd (UInt64 × Int) (UInt64 × Int) (UInt64 × Int)) := fun (m20, e21) =>
 bif decide (72057594037927936 ≤ m20) then
 (ref05_shifted m20 1).bind fun r37 =>
 lett (w64 (e21 + 1)) fun e46 =>
 some (.next (r37, e46))
 else
 some (.brk (m20, e21))
noncomputable def ref05_round_lp2 : (UInt64 × Int) → Option (Rnd (UInt64 × Int) (UInt64 × Int) (UInt64 × Int)) := fun (m51, e52) =>
 bif ((decide (m51 < 36028797018963968)) && (decide (1 < e52))) then
 lett (((2 : UInt64) * m51)) fun m63 =>
 lett (w64 (e52 - 1)) fun e64 =>
 some (.next (m63, e64))
 else
 some (.brk (m51, e52))
noncomputable def ref05_round (a0 : UInt64) (a1 : Int) (a2 : Bool) : Option UInt64 :=
 bif decide (a0 = 0) then
 some 0
 else
 (flow (loop (ref05_round_lp1) (a0, a1)) fun (m25, e26) =>
 some (m25, e26)).bind fun (m13, e14) =>
 (flow (loop (ref05_round_lp2) (m13, e14)) fun (m53, e54) =>
 some (m53, e54)).bind fun (m47, e48) =>
 lett ((m47 % 8)) fun rest65 =>
 lett ((m47 / 8)) fun m66 =>
 (bif ((decide (4 < rest65)) || ((decide (rest65 = 4)) && (decide ((m66 % 2) = 1)))) then
 lett ((m66 + 1)) fun m73 =>
 some m73
 else
 some m66).bind fun m67 =>
 (bif decide (9007199254740992 ≤ m67) then
 lett ((m67 / 2)) fun m79 =>
 lett (w64 (e48 + 1)) fun e80 =>
 some (m79, e80)
 else
 some (m67, e48)).bind fun (m74, e75) =>
 (bif decide (e75 < 2047) then
 bif decide (4503599627370496 ≤ m74) then
 lett (((m74 - 4503599627370496) + ((toU64 e75) * 4503599627370496))) fun out86 =>
 some out86
 else
 some m74
 else
 some 9218868437227405312).bind fun out81 =>
 bif a2 then
 lett ((out81 + 9223372036854775808)) fun t88 =>
 some t88
 else
 some out81
noncomputable def ref05_Add (a0 : UInt64) (a1 : UInt64) : Option UInt64 :=
 (ref05_Odd a0).bind fun r11 =>
 (bif r11 then
 some true
 else
 (ref05_Odd a1).bind fun r27 =>
 some r27).bind fun x20 =>
 bif x20 then
 some 9221120237041090561
 else
 (ref05_Finite a0).bind fun r38 =>
 (bif (!r38) then
 (ref05_Finite a1).bind fun r54 =>
 some (!r54)
 else
 some false).bind fun x47 =>
 bif (x47 && (!decide (a0 = a1))) then
 some 9221120237041090561
 else
 (ref05_Finite a0).bind fun r66 =>
 bif (!r66) then
 some a0
 else
 (ref05_Finite a1).bind fun r77 =>
 bif (!r77) then
 some a1
 else
 (ref05_wide a0).bind fun (r88, r89) =>
 (ref05_wide a1).bind fun (r98, r99) =>
 lett (((8 : UInt64) * r88)) fun m108 =>
 lett (((8 : UInt64) * r98)) fun nv109 =>
 (bif decide (r89 < r99) then
 (ref05_shifted m108 (w64 (r99 - r89))).bind fun r119 =>
 some (r119, r99, nv109)
 else
 (ref05_shifted nv109 (w64 (r89 - r99))).bind fun r128 =>
 some (m108, r89, r128)).bind fun (m110, e111, nv112) =>
 lett (decide (9223372036854775808 ≤ a0)) fun an137 =>
 lett (decide (9223372036854775808 ≤ a1)) fun bn138 =>
 bif decide (an137 = bn138) then
 bif ((decide (m110 = 0)) && (decide (nv112 = 0))) then
 some a0
 else
 (ref05_round (m110 + nv112) e111 an137).bind fun r143 =>
 some r143
 else
 bif decide (nv112 ≤ m110) then
 (ref05_round (m110 - nv112) e111 (an137 && (decide (nv112 < m110)))).bind fun r155 =>
 some r155
 else
 (ref05_round (nv112 - m110) e111 bn138).bind fun r165 =>
 some r165
noncomputable def ref05_Less (a0 : UInt64) (a1 : UInt64) : Option Bool :=
 (ref05_Odd a0).bind fun r11 =>
 (bif r11 then
 some true
 else
 (ref05_Odd a1).bind fun r27 =>
 some r27).bind fun x20 =>
 bif x20 then
 some false
 else
 lett ((a0 % 9223372036854775808)) fun x38 =>
 lett ((a1 % 9223372036854775808)) fun y39 =>
 bif ((decide (x38 = 0)) && (decide (y39 = 0))) then
 some false
 else
 bif ((decide (9223372036854775808 ≤ a0)) && (decide (9223372036854775808 ≤ a1))) then
 lett (decide (y39 < x38)) fun t45 =>
 some t45
 else
 bif ((decide (a0 < 9223372036854775808)) && (decide (a1 < 9223372036854775808))) then
 lett (decide (x38 < y39)) fun t49 =>
 some t49
 else
 lett (decide (9223372036854775808 ≤ a0)) fun t51 =>
 some t51
noncomputable def num_Finite (a0 : UInt64) : Option Bool :=
 lett ((!decide ((a0 &&& 9218868437227405312) = 9218868437227405312))) fun t11 =>
 some t11
end Go.Lg
namespace Go.Lg
noncomputable def num_AddPhasor (a0 : UInt64) (a1 : UInt64) (a2 : UInt64) (a3 : UInt64) : Option (UInt64 × UInt64) :=
  some (fAdd a0 a2, fAdd a1 a3)
noncomputable def num_SubPhasor (a0 : UInt64) (a1 : UInt64) (a2 : UInt64) (a3 : UInt64) : Option (UInt64 × UInt64) :=
  some (fSub a0 a2, fSub a1 a3)
end Go.Lg
namespace Go.Lg
open Ieee
/-! ### to the nearest, between two to the even one -/
def rne (N g : Nat) : Nat := N / 2 ^ g + (if 2 ^ g < 2 * (N % 2 ^ g) ∨ (2 ^ g = 2 * (N % 2 ^ g) ∧ N / 2 ^ g % 2 = 1) then 1 else 0)
theorem log_lt (n : Nat) : n < 2 ^ (n.log2 + 1) := Nat.lt_log2_self
theorem cut_eq (neg : Bool) (N g : Nat) : Toward.even.cut neg N g = rne N g := by
  unfold Toward.cut rne
  simp only [Nat.shiftLeft_eq, Nat.one_mul]
  by_cases h : g ≤ N.log2 + 2
  · rw [Nat.min_eq_left h]
    by_cases a : 2 ^ g < 2 * (N % 2 ^ g)
    · simp [a]
    · by_cases b : 2 ^ g = 2 * (N % 2 ^ g) ∧ N / 2 ^ g % 2 = 1
      · rw [if_pos (.inr b)]
        have : (2 ^ g == 2 * (N % 2 ^ g)) = true := by simp only [beq_iff_eq]; exact b.1
        rw [this]
        simp [b.2]
      · rw [if_neg (fun e => e.elim a b)]
        have : ((2 ^ g == 2 * (N % 2 ^ g)) && N / 2 ^ g % 2 == 1) = false := by
          rw [Bool.and_eq_false_iff]
          by_cases c : 2 ^ g = 2 * (N % 2 ^ g)
          · right
            have : ¬ N / 2 ^ g % 2 = 1 := fun e => b ⟨c, e⟩
            simpa using this
          · left; simpa using c
        rw [this]
        simp [a]
  · have hl := log_lt N
    have h1 : N < 2 ^ (N.log2 + 2) := Nat.lt_trans hl (Nat.pow_lt_pow_right (by omega) (by omega))
    have h2 : N.log2 + 2 ≤ g := by omega
    have h3 : 2 ^ (N.log2 + 2) ≤ 2 ^ g := Nat.pow_le_pow_right (by omega) h2
    have e : 2 ^ (N.log2 + 2) = 2 * 2 ^ (N.log2 + 1) := by rw [Nat.pow_succ]; omega
    rw [Nat.min_eq_right h2, Nat.div_eq_of_lt h1, Nat.mod_eq_of_lt h1, Nat.div_eq_of_lt (show N < 2 ^ g by omega), Nat.mod_eq_of_lt (show N < 2 ^ g by omega)]
    rw [if_neg (by omega)]
    have a : ¬ 2 ^ (N.log2 + 2) < 2 * N := by omega
    simp [a]
/-- as m, in units of 2^c, so N: at multiples of u -/
def RepU (u m N c : Nat) : Prop := ∀ t : Nat, (u * t < m ↔ u * t * 2 ^ c < N) ∧ (u * t = m ↔ u * t * 2 ^ c = N)
theorem RepU.exact {u m N c : Nat} (h : m * 2 ^ c = N) : RepU u m N c := by
  intro t
  have hp : 0 < 2 ^ c := Nat.two_pow_pos c
  rw [← h]
  exact ⟨(Nat.mul_lt_mul_right hp).symm, (Nat.mul_left_inj (by omega)).symm⟩
theorem RepU.coarse {u v m N c : Nat} (h : RepU u m N c) : RepU (u * v) m N c := fun t => by
  have := h (v * t)
  rwa [← Nat.mul_assoc] at this
theorem RepU.scale {u m N c : Nat} (h : RepU u m N c) (a : Nat) : RepU u m (N * 2 ^ a) (c + a) := fun t => by
  have hp : 0 < 2 ^ a := Nat.two_pow_pos a
  have := h t
  rw [Nat.pow_add, ← Nat.mul_assoc, Nat.mul_lt_mul_right hp, Nat.mul_left_inj (by omega)]
  exact this
theorem RepU.le {u m N c : Nat} (h : RepU u m N c) (t : Nat) : (u * t ≤ m ↔ u * t * 2 ^ c ≤ N) := by
  obtain ⟨a, b⟩ := h t
  constructor
  · intro q
    rcases Nat.lt_or_eq_of_le q with q | q
    · exact Nat.le_of_lt (a.1 q)
    · exact Nat.le_of_eq (b.1 q)
  · intro q
    rcases Nat.lt_or_eq_of_le q with q | q
    · exact Nat.le_of_lt (a.2 q)
    · exact Nat.le_of_eq (b.2 q)
theorem rne_rep {m N c : Nat} (h : RepU 4 m N c) : rne N (c + 3) = rne m 3 := by
  have hp : 0 < 2 ^ c := Nat.two_pow_pos c
  have e3 : 2 ^ (c + 3) = 8 * 2 ^ c := by rw [Nat.pow_add]; omega
  have hq : N / 2 ^ (c + 3) = m / 8 := by
    have l1 := (h.le (2 * (m / 8))).1 (by omega)
    have l2 := mt (h.le (2 * (m / 8) + 2)).2 (by omega)
    rw [e3]
    apply Nat.div_eq_of_lt_le
    · rw [← Nat.mul_assoc]
      rw [show m / 8 * 8 = 4 * (2 * (m / 8)) by omega]; exact l1
    · rw [← Nat.mul_assoc]
      rw [show (m / 8 + 1) * 8 = 4 * (2 * (m / 8) + 2) by omega]; omega
  obtain ⟨a, b⟩ := h (2 * (m / 8) + 1)
  have hN := Nat.div_add_mod N (2 ^ (c + 3))
  rw [hq, e3] at hN
  have e4 : 4 * (2 * (m / 8) + 1) * 2 ^ c = 8 * 2 ^ c * (m / 8) + 4 * 2 ^ c := by grind
  rw [e4] at a b
  unfold rne
  rw [hq, e3]
  have e8 : (2 : Nat) ^ 3 = 8 := rfl
  rw [e8]
  generalize hX : 8 * 2 ^ c * (m / 8) = X at *
  generalize hR : N % (8 * 2 ^ c) = R at *
  have c1 : 8 * 2 ^ c < 2 * R ↔ 8 < 2 * (m % 8) := by
    constructor
    · intro q; have := a.2 (by omega); omega
    · intro q; have := a.1 (by omega); omega
  have c2 : 8 * 2 ^ c = 2 * R ↔ 8 = 2 * (m % 8) := by
    constructor
    · intro q; have := b.2 (by omega); omega
    · intro q; have := b.1 (by omega); omega
  simp only [c1, c2]
theorem rne_scale (N g a : Nat) : rne (N * 2 ^ a) (g + a) = rne N g := by
  have hp : 0 < 2 ^ a := Nat.two_pow_pos a
  unfold rne
  rw [Nat.pow_add, Nat.mul_div_mul_right _ _ hp, Nat.mul_mod_mul_right, ← Nat.mul_assoc]
  simp only [Nat.mul_lt_mul_right hp, Nat.mul_left_inj (show 2 ^ a ≠ 0 by omega)]
/-- what the nearest word is: N is mag * 2^K, e the exponent at which m stands -/
theorem nearest_eq {neg : Bool} {mag m c e K : Nat} {place : Int} (hm : mag ≠ 0) (hK : (c : Int) = (e : Int) - 1078 - place + K) (h : RepU 4 m (mag * 2 ^ K) c)
    (he : 1 ≤ e) (h1 : m < 72057594037927936) (h2 : 36028797018963968 ≤ m ∨ e = 1) :
    double.nearest neg mag place = double.word neg (min ((e - 1) * 4503599627370496 + rne m 3) double.infRung) := by
  have hN0 : mag * 2 ^ K ≠ 0 := by
    have := Nat.two_pow_pos K
    exact Nat.mul_ne_zero hm (by omega)
  have hlogK : (mag * 2 ^ K).log2 = mag.log2 + K := by
    have hl := Nat.log2_self_le hm
    have hu := log_lt mag
    have hp := Nat.two_pow_pos K
    apply Nat.le_antisymm
    · apply Nat.le_of_lt_succ
      rw [Nat.log2_lt hN0, Nat.succ_eq_add_one, show mag.log2 + K + 1 = mag.log2 + 1 + K by omega, Nat.pow_add]
      exact (Nat.mul_lt_mul_right hp).2 hu
    · rw [Nat.le_log2 hN0, Nat.pow_add]
      exact Nat.mul_le_mul_right _ hl
  have hup := mt (h.le 18014398509481984).2 (by omega)
  have hlt : (mag * 2 ^ K).log2 < 56 + c := by
    rw [Nat.log2_lt hN0, Nat.pow_add]
    have : (2 : Nat) ^ 56 = 4 * 18014398509481984 := by decide
    rw [this]; omega
  have hlast : max (place + (mag.log2 : Int) - 52) (-1074) = (e : Int) - 1075 := by
    rcases h2 with h2 | h2
    · have hlo := (h.le 9007199254740992).1 (by omega)
      have : 55 + c ≤ (mag * 2 ^ K).log2 := by
        rw [Nat.le_log2 hN0, Nat.pow_add]
        have : (2 : Nat) ^ 55 = 4 * 9007199254740992 := by decide
        rw [this]; exact hlo
      omega
    · by_cases h3 : 36028797018963968 ≤ m
      · have hlo := (h.le 9007199254740992).1 (by omega)
        have : 55 + c ≤ (mag * 2 ^ K).log2 := by
          rw [Nat.le_log2 hN0, Nat.pow_add]
          have : (2 : Nat) ^ 55 = 4 * 9007199254740992 := by decide
          rw [this]; exact hlo
        omega
      · have hup := mt (h.le 9007199254740992).2 (by omega)
        have : (mag * 2 ^ K).log2 < 55 + c := by
          rw [Nat.log2_lt hN0, Nat.pow_add]
          have : (2 : Nat) ^ 55 = 4 * 9007199254740992 := by decide
          rw [this]; omega
        omega
  have hfl : double.leastPlace = -1074 := by decide
  have hff : ((double.fractionBits : Nat) : Int) = 52 := by decide
  have hb : double.binade = 4503599627370496 := by decide
  unfold Format.nearest
  rw [if_neg hm]
  simp only [hfl, hff, hlast, hb, cut_eq, Nat.shiftLeft_eq]
  have hk : rne (mag * 2 ^ (place - ((e : Int) - 1075)).toNat) ((e : Int) - 1075 - place).toNat = rne m 3 := by
    rw [← rne_rep h]
    by_cases hp : place ≤ (e : Int) - 1075
    · rw [show (place - ((e : Int) - 1075)).toNat = 0 by omega, Nat.pow_zero, Nat.mul_one, show c + 3 = ((e : Int) - 1075 - place).toNat + K by omega, rne_scale]
    · rw [show ((e : Int) - 1075 - place).toNat = 0 by omega]
      have := rne_scale (mag * 2 ^ (place - ((e : Int) - 1075)).toNat) 0 (c + 3)
      rw [Nat.zero_add, Nat.mul_assoc, ← Nat.pow_add, show (place - ((e : Int) - 1075)).toNat + (c + 3) = K by omega] at this
      exact this.symm
  rw [hk, show ((e : Int) - 1075 - -1074).toNat = e - 1 by omega]
end Go.Lg
namespace Go.Lg
open Ieee
attribute [local irreducible] w64 toU64 toU8 shlU shrU shlB shrB
/-! ### moved right, the last digit set if something went out -/
theorem or_one (x : Nat) : x ||| 1 = x + (1 - x % 2) := by
  rcases Nat.mod_two_eq_zero_or_one x with h | h
  · have := or_add (a := x / 2) (b := 1) (i := 1) (by decide)
    rw [Nat.pow_one, show x / 2 * 2 = x by omega] at this
    rw [this, h]
  · have := or_add (a := x / 2) (b := 1) (i := 1) (by decide)
    rw [Nat.pow_one, show x / 2 * 2 + 1 = x by omega] at this
    rw [h, Nat.sub_self, Nat.add_zero]
    conv => lhs; rw [← this]
    rw [Nat.or_assoc, Nat.or_self, this]
theorem st1_eq (m : Nat) : m / 2 ||| m % 2 = m / 2 + (if m % 2 = 1 ∧ m / 2 % 2 = 0 then 1 else 0) := by
  rcases Nat.mod_two_eq_zero_or_one m with h | h
  · rw [h, Nat.or_zero, if_neg (by omega)]; rfl
  · rw [h, or_one]
    by_cases q : m / 2 % 2 = 0
    · rw [if_pos ⟨rfl, q⟩, q]
    · rw [if_neg (fun e => q e.2)]; omega
theorem RepU.half {m N c : Nat} (h : RepU 2 m N c) : RepU 2 (m / 2 ||| m % 2) N (c + 1) := fun t => by
  obtain ⟨a, b⟩ := h (2 * t)
  have e : 2 * t * 2 ^ (c + 1) = 2 * (2 * t) * 2 ^ c := by rw [Nat.pow_succ]; grind
  rw [e, ← a, ← b, st1_eq]
  split <;> constructor <;> constructor <;> omega
theorem RepU.double {m N c : Nat} (h : RepU 2 m N (c + 1)) : RepU 4 (2 * m) N c := fun t => by
  obtain ⟨a, b⟩ := h t
  have e : 4 * t * 2 ^ c = 2 * t * 2 ^ (c + 1) := by rw [Nat.pow_succ]; grind
  rw [e, ← a, ← b]
  constructor <;> constructor <;> omega
theorem RepU.small {m N i n : Nat} (h : RepU 2 m N i) (hm : m < 2) (hn : i ≤ n) : RepU 2 m N n := fun t => by
  obtain ⟨a0, b0⟩ := h 0
  have hle := (h.le t)
  obtain ⟨k, rfl⟩ : ∃ k, n = i + k := ⟨n - i, by omega⟩
  have hp : 1 ≤ 2 ^ k := Nat.one_le_two_pow
  have hmul : 2 * t * 2 ^ i ≤ 2 * t * 2 ^ (i + k) := by
    rw [Nat.pow_add, ← Nat.mul_assoc]
    exact Nat.le_mul_of_pos_right _ hp
  simp only [Nat.mul_zero, Nat.zero_mul] at a0 b0
  by_cases ht : t = 0
  · subst ht
    simp only [Nat.mul_zero, Nat.zero_mul]
    exact ⟨a0, b0⟩
  · have h1 : ¬ 2 * t ≤ m := by omega
    have h2 : ¬ 2 * t * 2 ^ i ≤ N := fun e => h1 (hle.2 e)
    constructor <;> constructor <;> intro q <;> omega
theorem st_u (m : UInt64) : (m / 2 ||| m % 2).toNat = m.toNat / 2 ||| m.toNat % 2 := by
  rw [UInt64.toNat_or, UInt64.toNat_div, UInt64.toNat_mod]; rfl
theorem shifted_eq (a : UInt64) {n : Nat} (hn : n ≤ 4000) : ∃ r, ref05_shifted a (n : Int) = some r ∧ RepU 2 r.toNat a.toNat n ∧ r.toNat ≤ a.toNat / 2 ^ n + 1 := by
  have key : ∀ (k i : Nat) (m : UInt64), i + k = n → RepU 2 m.toNat a.toNat i → ∃ p, loop (ref05_shifted_lp1 (n : Int)) (m, (i : Int)) = some p ∧ ∃ r, (p = .go r ∨ p = .out r) ∧ RepU 2 r.toNat a.toNat n := by
    intro k
    induction k with
    | zero =>
      intro i m hi h
      refine ⟨.go m, loop_brk ?_, m, .inl rfl, by rw [show n = i by omega]; exact h⟩
      unfold ref05_shifted_lp1
      dsimp only
      rw [bifFd (by omega)]
    | succ k ih =>
      intro i m hi h
      by_cases hm : m.toNat < 2
      · refine ⟨.out m, loop_out ?_, m, .inr rfl, h.small hm (by omega)⟩
        unfold ref05_shifted_lp1
        dsimp only
        rw [bifTd (by omega), bifTd (by rw [UInt64.lt_iff_toNat_lt]; exact hm)]; rfl
      · have hs := h.half
        rw [← st_u] at hs
        obtain ⟨p, p1, p2⟩ := ih (i + 1) (m / 2 ||| m % 2) (by omega) hs
        refine ⟨p, ?_, p2⟩
        rw [← p1]
        refine loop_next ?_
        unfold ref05_shifted_lp1
        dsimp only
        rw [bifTd (by omega), bifFd (by rw [UInt64.lt_iff_toNat_lt]; exact hm), lett_eq, lett_eq, w64_succ (by omega)]
  obtain ⟨p, p1, r, p2, p3⟩ := key n 0 a (by omega) (RepU.exact (by simp))
  have p1' : loop (ref05_shifted_lp1 (n : Int)) (a, 0) = some p := p1
  refine ⟨r, ?_, p3, ?_⟩
  · unfold ref05_shifted
    rw [p1']
    rcases p2 with rfl | rfl <;> rfl
  · -- above: 2 * ((a / 2^n) / 2 + 1) * 2^n is above a
    have h := mt (p3.le (a.toNat / 2 ^ n / 2 + 1)).1
    have hp := Nat.two_pow_pos n
    have hd := Nat.lt_div_mul_add (a := a.toNat) hp
    have h1 : a.toNat < 2 * (a.toNat / 2 ^ n / 2 + 1) * 2 ^ n := by
      have : a.toNat / 2 ^ n + 1 ≤ 2 * (a.toNat / 2 ^ n / 2 + 1) := by omega
      have := Nat.mul_le_mul_right (2 ^ n) this
      rw [Nat.add_mul, Nat.one_mul] at this
      omega
    have h2 := h (by omega)
    omega
end Go.Lg
namespace Go.Lg
open Ieee
attribute [local irreducible] w64 toU64 toU8 shlU shrU shlB shrB
/-- m, e stands for N at unit c: exactly, or with its last digit set for what went out, and then it is large -/
def Std (m N c : Nat) : Prop := m * 2 ^ c = N ∨ (RepU 2 m N c ∧ 18014398509481984 ≤ m)
theorem round_lp1 (N : Nat) (off : Int) : ∀ (n : Nat) (m : UInt64) (e c : Nat), m.toNat ≤ n → Std m.toNat N c → (c : Int) = (e : Int) + off → e + m.toNat / 36028797018963968 ≤ 3000 → 1 ≤ e →
    ∃ (m' : UInt64) (e' c' : Nat), loop ref05_round_lp1 (m, (e : Int)) = some (.go (m', (e' : Int))) ∧ Std m'.toNat N c' ∧ (c' : Int) = (e' : Int) + off ∧ m'.toNat < 72057594037927936 ∧ 1 ≤ e' ∧ e' ≤ e + m.toNat / 36028797018963968 := by
  intro n
  induction n using Nat.strongRecOn with
  | _ n ih =>
    intro m e c hn hs hc he he1
    by_cases h : 72057594037927936 ≤ m.toNat
    · obtain ⟨r, r1, r2, r3⟩ := shifted_eq m (n := 1) (by omega)
      have r1' : ref05_shifted m 1 = some r := r1
      rw [Nat.pow_one] at r3
      have hlow : 36028797018963968 ≤ r.toNat := by
        have := (r2.le 18014398509481984).2 (by rw [Nat.pow_one]; omega)
        omega
      have hs' : Std r.toNat N (c + 1) := by
        refine .inr ⟨?_, by omega⟩
        rcases hs with hs | ⟨hs, _⟩
        · have := r2.scale c
          rw [hs, Nat.add_comm 1 c] at this
          exact this
        · intro t
          obtain ⟨a1, a2⟩ := r2 t
          obtain ⟨b1, b2⟩ := hs (2 * t)
          have e2 : 2 * t * 2 ^ (c + 1) = 2 * (2 * t) * 2 ^ c := by rw [Nat.pow_succ]; grind
          rw [Nat.pow_one] at a1 a2
          rw [e2, ← b1, ← b2, a1, a2, Nat.mul_comm (2 * t) 2]
          exact ⟨Iff.rfl, Iff.rfl⟩
      obtain ⟨m', e', c', l1, l2, l3, l4, l5, l6⟩ := ih r.toNat (by omega) r (e + 1) (c + 1) (Nat.le_refl _) hs' (by omega) (by omega) (by omega)
      exact ⟨m', e', c', by
        rw [← l1]
        refine loop_next ?_
        unfold ref05_round_lp1
        dsimp only
        rw [bifTd (by rw [UInt64.le_iff_toNat_le]; exact h), r1', bind_some, lett_eq, w64_succ (by omega)], l2, l3, l4, l5, by omega⟩
    · refine ⟨m, e, c, loop_brk ?_, hs, hc, by omega, he1, by omega⟩
      unfold ref05_round_lp1
      dsimp only
      rw [bifFd (by rw [UInt64.le_iff_toNat_le]; exact h)]
theorem round_lp2 (N : Nat) (off : Int) : ∀ (k : Nat) (m : UInt64) (e c : Nat), e ≤ k → Std m.toNat N c → (c : Int) = (e : Int) + off → 0 ≤ off → m.toNat < 72057594037927936 → e ≤ 3000 → 1 ≤ e →
    ∃ (m' : UInt64) (e' c' : Nat), loop ref05_round_lp2 (m, (e : Int)) = some (.go (m', (e' : Int))) ∧ RepU 4 m'.toNat N c' ∧ (c' : Int) = (e' : Int) + off ∧ m'.toNat < 72057594037927936 ∧ 1 ≤ e' ∧ e' ≤ e ∧ (36028797018963968 ≤ m'.toNat ∨ e' = 1) := by
  have stop : ∀ (m : UInt64) (e c : Nat), (36028797018963968 ≤ m.toNat ∨ e = 1) → RepU 4 m.toNat N c → (c : Int) = (e : Int) + off → m.toNat < 72057594037927936 → 1 ≤ e →
      ∃ (m' : UInt64) (e' c' : Nat), loop ref05_round_lp2 (m, (e : Int)) = some (.go (m', (e' : Int))) ∧ RepU 4 m'.toNat N c' ∧ (c' : Int) = (e' : Int) + off ∧ m'.toNat < 72057594037927936 ∧ 1 ≤ e' ∧ e' ≤ e ∧ (36028797018963968 ≤ m'.toNat ∨ e' = 1) := by
    intro m e c hst hr hc hm he1
    refine ⟨m, e, c, loop_brk ?_, hr, hc, hm, he1, Nat.le_refl _, hst⟩
    unfold ref05_round_lp2
    dsimp only
    rw [bifF]
    rw [Bool.and_eq_false_iff, decide_eq_false_iff_not, decide_eq_false_iff_not, UInt64.lt_iff_toNat_lt, show (36028797018963968 : UInt64).toNat = 36028797018963968 from rfl]
    omega
  intro k
  induction k with
  | zero => intro m e c hk _ _ _ _ _ he1; omega
  | succ k ih =>
    intro m e c hk hs hc ho hm he he1
    by_cases h : 36028797018963968 ≤ m.toNat ∨ e = 1
    · refine stop m e c h ?_ hc hm he1
      rcases hs with hs | ⟨hs, _⟩
      · exact RepU.exact hs
      · exact hs.coarse (v := 2)
    · obtain ⟨d, rfl⟩ : ∃ d, c = d + 1 := ⟨c - 1, by omega⟩
      obtain ⟨f, rfl⟩ : ∃ f, e = f + 1 := ⟨e - 1, by omega⟩
      have h2 : ((2 : UInt64) * m).toNat = 2 * m.toNat := by
        rw [UInt64.toNat_mul, show (2 : UInt64).toNat = 2 from rfl]; omega
      have hn : ref05_round_lp2 (m, ((f + 1 : Nat) : Int)) = some (.next ((2 : UInt64) * m, (f : Int))) := by
        unfold ref05_round_lp2
        dsimp only
        rw [bifT (by rw [Bool.and_eq_true, decide_eq_true_eq, decide_eq_true_eq, UInt64.lt_iff_toNat_lt, show (36028797018963968 : UInt64).toNat = 36028797018963968 from rfl]; omega), lett_eq, lett_eq, w64_id (by omega) (by omega), show ((f + 1 : Nat) : Int) - 1 = (f : Int) by omega]
      rw [loop_next hn]
      rcases hs with hs | ⟨hs, hb⟩
      · obtain ⟨m', e', c', l1, l2, l3, l4, l5, l6, l7⟩ := ih ((2 : UInt64) * m) f d (by omega) (.inl (by rw [h2, ← hs, Nat.pow_succ]; grind)) (by omega) ho (by omega) (by omega) (by omega)
        exact ⟨m', e', c', l1, l2, l3, l4, l5, by omega, l7⟩
      · obtain ⟨m', e', c', l1, l2, l3, l4, l5, l6, l7⟩ := stop ((2 : UInt64) * m) f d (.inl (by omega)) (by rw [h2]; exact hs.double) (by omega) (by omega) (by omega)
        exact ⟨m', e', c', l1, l2, l3, l4, l5, by omega, l7⟩
theorem rne_le (m : Nat) : rne m 3 = m / 8 + if 8 < 2 * (m % 8) ∨ (8 = 2 * (m % 8) ∧ m / 8 % 2 = 1) then 1 else 0 := rfl
/-- the document's rounding is the nearest word -/
theorem round_eq {m : UInt64} {mag e c K : Nat} {place : Int} {neg : Bool} (hmag : mag ≠ 0) (hs : Std m.toNat (mag * 2 ^ K) c) (hK : (c : Int) = (e : Int) - 1078 - place + K) (hoff : 0 ≤ (K : Int) - 1078 - place)
    (hm : m.toNat < 288230376151711744) (he : e ≤ 2900) (he1 : 1 ≤ e) : ref05_round m (e : Int) neg = some (UInt64.ofNat (double.nearest neg mag place)) := by
  have hN : 0 < mag * 2 ^ K := Nat.mul_pos (by omega) (Nat.two_pow_pos K)
  have hm0 : m ≠ 0 := by
    rintro rfl
    have z : (0 : UInt64).toNat = 0 := rfl
    rcases hs with hs | ⟨_, hs⟩
    · rw [z, Nat.zero_mul] at hs; omega
    · rw [z] at hs; omega
  obtain ⟨m1, e1, c1, a1, a2, a3, a4, a5, a6⟩ := round_lp1 (mag * 2 ^ K) ((K : Int) - 1078 - place) m.toNat m e c (Nat.le_refl _) hs (by omega) (by omega) he1
  obtain ⟨m2, e2, c2, b1, b2, b3, b4, b5, b6, b7⟩ := round_lp2 (mag * 2 ^ K) ((K : Int) - 1078 - place) e1 m1 e1 c1 (Nat.le_refl _) a2 a3 hoff a4 (by omega) a5
  have hn := nearest_eq (neg := neg) (place := place) (K := K) (c := c2) (e := e2) hmag (by omega) b2 b5 b4 b7
  have hinf : double.infRung = 9218868437227405312 := by decide
  have hsw : double.signWeight = 9223372036854775808 := by decide
  rw [hinf] at hn
  rw [hn]
  have hr := rne_le m2.toNat
  generalize hk : rne m2.toNat 3 = kept at *
  unfold ref05_round
  rw [bifFd hm0, a1, flow_go, bind_some]
  dsimp only
  rw [b1, flow_go, bind_some]
  dsimp only
  rw [lett_eq, lett_eq]
  have q8 : (m2 / 8).toNat = m2.toNat / 8 := by rw [UInt64.toNat_div]; rfl
  have r8 : (m2 % 8).toNat = m2.toNat % 8 := by rw [UInt64.toNat_mod]; rfl
  have n4 : (4 : UInt64).toNat = 4 := rfl
  have n1' : (1 : UInt64).toNat = 1 := rfl
  have p2 : (m2 / 8 % 2).toNat = m2.toNat / 8 % 2 := by rw [UInt64.toNat_mod, q8]; rfl
  have hup : (bif ((decide (4 < m2 % 8)) || ((decide (m2 % 8 = 4)) && (decide ((m2 / 8 % 2) = 1)))) then lett (m2 / 8 + 1) fun m73 => some m73 else some (m2 / 8)) = some (UInt64.ofNat kept) := by
    by_cases h : 8 < 2 * (m2.toNat % 8) ∨ (8 = 2 * (m2.toNat % 8) ∧ m2.toNat / 8 % 2 = 1)
    · rw [if_pos h] at hr
      rw [bifT, lett_eq, hr]
      · refine congrArg some (UInt64.toNat_inj.1 ?_)
        rw [UInt64.toNat_add, q8, n1', UInt64.toNat_ofNat']
      · rw [Bool.or_eq_true, Bool.and_eq_true, decide_eq_true_eq, decide_eq_true_eq, decide_eq_true_eq, UInt64.lt_iff_toNat_lt, ← UInt64.toNat_inj, ← UInt64.toNat_inj, r8, p2, n4, n1']; omega
    · rw [if_neg h] at hr
      rw [bifF, hr]
      · refine congrArg some (UInt64.toNat_inj.1 ?_)
        rw [q8, UInt64.toNat_ofNat']; omega
      · rw [Bool.or_eq_false_iff, Bool.and_eq_false_iff, decide_eq_false_iff_not, decide_eq_false_iff_not, decide_eq_false_iff_not, UInt64.lt_iff_toNat_lt, ← UInt64.toNat_inj, ← UInt64.toNat_inj, r8, p2, n4, n1']; omega
  have hkb : kept ≤ 9007199254740992 := by rw [hr]; split <;> omega
  have hkl : 4503599627370496 ≤ kept ∨ e2 = 1 := by
    rcases b7 with b7 | b7
    · left; rw [hr]; omega
    · exact .inr b7
  have kn : (UInt64.ofNat kept).toNat = kept := by rw [UInt64.toNat_ofNat']; omega
  rw [hup, bind_some]
  -- what comes out, unsigned
  have hout : ((bif decide (9007199254740992 ≤ UInt64.ofNat kept) then
      lett (UInt64.ofNat kept / 2) fun m79 => lett (w64 ((e2 : Int) + 1)) fun e80 => some (m79, e80)
      else some (UInt64.ofNat kept, (e2 : Int))).bind fun (m74, e75) =>
      (bif decide (e75 < 2047) then
        bif decide (4503599627370496 ≤ m74) then lett (((m74 - 4503599627370496) + ((toU64 e75) * 4503599627370496))) fun out86 => some out86
        else some m74
      else some 9218868437227405312)) = some (UInt64.ofNat (min ((e2 - 1) * 4503599627370496 + kept) 9218868437227405312)) := by
    have nn : (4503599627370496 : UInt64).toNat = 4503599627370496 := rfl
    by_cases hc : kept = 9007199254740992
    · have hh : UInt64.ofNat kept / 2 = 4503599627370496 := by rw [hc]; decide
      rw [bifTd (by rw [UInt64.le_iff_toNat_le, kn, hc]; decide), lett_eq, lett_eq, hh, w64_succ (by omega), bind_some]
      dsimp only
      by_cases hl : e2 + 1 < 2047
      · rw [bifTd (by omega), bifTd (by decide), lett_eq, Nat.min_eq_left (by omega)]
        refine congrArg some (UInt64.toNat_inj.1 ?_)
        rw [UInt64.toNat_add, UInt64.toNat_mul, toU64_nat (by omega), nn, UInt64.toNat_sub, nn, UInt64.toNat_ofNat']; omega
      · rw [bifFd (by omega), Nat.min_eq_right (by omega)]; rfl
    · rw [bifFd (by rw [UInt64.le_iff_toNat_le, kn, show (9007199254740992 : UInt64).toNat = 9007199254740992 from rfl]; omega), bind_some]
      dsimp only
      by_cases hl : e2 < 2047
      · rw [bifTd (by omega), Nat.min_eq_left (by omega)]
        by_cases hq : 4503599627370496 ≤ kept
        · rw [bifTd (by rw [UInt64.le_iff_toNat_le, kn, nn]; exact hq), lett_eq]
          refine congrArg some (UInt64.toNat_inj.1 ?_)
          rw [UInt64.toNat_add, UInt64.toNat_mul, toU64_nat (by omega), nn, UInt64.toNat_sub, kn, nn, UInt64.toNat_ofNat']; omega
        · rw [bifFd (by rw [UInt64.le_iff_toNat_le, kn, nn]; exact hq)]
          have : e2 = 1 := by omega
          rw [this, Nat.sub_self, Nat.zero_mul, Nat.zero_add]
      · rw [bifFd (by omega), Nat.min_eq_right (by omega)]; rfl
  have hout' := hout
  revert hout'
  generalize (bif decide (9007199254740992 ≤ UInt64.ofNat kept) then
      lett (UInt64.ofNat kept / 2) fun m79 => lett (w64 ((e2 : Int) + 1)) fun e80 => some (m79, e80)
      else some (UInt64.ofNat kept, (e2 : Int))) = A
  intro hA
  cases A with
  | none => cases hA
  | some A =>
    obtain ⟨A1, A2⟩ := A
    rw [bind_some] at hA ⊢
    dsimp only at hA ⊢
    rw [hA, bind_some]
    unfold Format.word
    rw [hsw]
    have hmin : min ((e2 - 1) * 4503599627370496 + kept) 9218868437227405312 ≤ 9218868437227405312 := Nat.min_le_right _ _
    generalize min ((e2 - 1) * 4503599627370496 + kept) 9218868437227405312 = R at *
    cases neg with
    | true =>
      rw [bifT rfl, lett_eq, if_pos rfl]
      refine congrArg some (UInt64.toNat_inj.1 ?_)
      rw [UInt64.toNat_add, UInt64.toNat_ofNat', UInt64.toNat_ofNat', show (9223372036854775808 : UInt64).toNat = 9223372036854775808 from rfl]; omega
    | false => rw [bifF (by rfl), if_neg (by simp)]
end Go.Lg
namespace Go.Lg
open Ieee
attribute [local irreducible] w64 toU64 toU8 shlU shrU shlB shrB
/-! ### what bits stand for -/
def fW (n : Nat) : Nat := if fE n = 0 then fM n else fM n + 4503599627370496
def fX (n : Nat) : Nat := if fE n = 0 then 1 else fE n
theorem read_eq {n : Nat} (h : n < 18446744073709551616) : double.read n =
    if fE n = 2047 then (if fM n = 0 then .infinity (fS n) else .nan (fS n) (fM n)) else .number (fS n) (fW n) ((fX n : Int) - 1075) := by
  have hsw : double.signWeight = 9223372036854775808 := by decide
  have hb : double.binade = 4503599627370496 := by decide
  have hinf : double.infRung = 9218868437227405312 := by decide
  have hl : double.leastPlace = -1074 := by decide
  have hs : (n / 9223372036854775808 % 2 == 1) = fS n := by
    unfold fS
    by_cases q : 9223372036854775808 ≤ n
    · rw [decide_eq_true q]; simp; omega
    · rw [decide_eq_false q]; simp; omega
  unfold Format.read
  simp only [hsw, hb, hinf, hl, hs]
  unfold fW fX fE fM
  by_cases h0 : n / 4503599627370496 % 2048 = 0
  · rw [if_pos (by omega), if_neg (by omega), if_pos h0, if_pos h0, show n % 9223372036854775808 = n % 4503599627370496 by omega]; rfl
  · rw [if_neg (by omega)]
    by_cases h1 : n / 4503599627370496 % 2048 = 2047
    · rw [if_neg (by omega), if_pos h1]
      by_cases h2 : n % 4503599627370496 = 0
      · rw [if_pos (by omega), if_pos h2]
      · rw [if_neg (by omega), if_neg h2, show n % 9223372036854775808 - 9218868437227405312 = n % 4503599627370496 by omega]
    · rw [if_pos (by omega), if_neg h1, if_neg h0, if_neg h0]
      congr 1
      · omega
      · omega
/-- two sizes at unit d, at least one of them whole -/
structure Two (m n X Y d : Nat) : Prop where
  h : (m * 2 ^ d = X ∧ m % 2 = 0 ∧ RepU 2 n Y d) ∨ (n * 2 ^ d = Y ∧ n % 2 = 0 ∧ RepU 2 m X d)
theorem Two.swap {m n X Y d : Nat} (t : Two m n X Y d) : Two n m Y X d := ⟨t.h.elim .inr .inl⟩
theorem Two.lt {m n X Y d : Nat} (t : Two m n X Y d) : (n < m ↔ Y < X) ∧ (n = m ↔ Y = X) := by
  rcases t.h with ⟨h1, h2, h3⟩ | ⟨h1, h2, h3⟩
  · obtain ⟨a, b⟩ := h3 (m / 2)
    have l := h3.le (m / 2)
    rw [show 2 * (m / 2) = m by omega, h1] at a b l
    exact ⟨by constructor <;> intro q <;> omega, by rw [eq_comm, b, eq_comm]⟩
  · obtain ⟨a, b⟩ := h3 (n / 2)
    rw [show 2 * (n / 2) = n by omega, h1] at a b
    exact ⟨a, b⟩
theorem rep_add {B r n d : Nat} (h : RepU 2 r n d) (hB : B % 2 = 0) : RepU 2 (B + r) (B * 2 ^ d + n) d := fun t => by
  have hp := Nat.two_pow_pos d
  by_cases q : 2 * t < B
  · have : 2 * t * 2 ^ d < B * 2 ^ d := (Nat.mul_lt_mul_right hp).2 q
    constructor <;> constructor <;> intro _ <;> omega
  · obtain ⟨a, b⟩ := h (t - B / 2)
    have e : 2 * t = B + 2 * (t - B / 2) := by omega
    rw [e, Nat.add_mul]
    constructor <;> constructor <;> intro z
    · have := a.1 (by omega); omega
    · have := a.2 (by omega); omega
    · have := b.1 (by omega); omega
    · have := b.2 (by omega); omega
theorem Two.add {m n X Y d : Nat} (t : Two m n X Y d) : RepU 2 (m + n) (X + Y) d := by
  rcases t.h with ⟨h1, h2, h3⟩ | ⟨h1, h2, h3⟩
  · rw [← h1]; exact rep_add h3 h2
  · rw [← h1, Nat.add_comm m, Nat.add_comm X]; exact rep_add h3 h2
theorem Two.sub {m n X Y d : Nat} (t : Two m n X Y d) (h : n ≤ m) : RepU 2 (m - n) (X - Y) d := by
  have hp := Nat.two_pow_pos d
  have hl := t.lt
  have hXY : Y ≤ X := by
    rcases Nat.lt_or_eq_of_le h with q | q
    · exact Nat.le_of_lt (hl.1.1 q)
    · exact Nat.le_of_eq (hl.2.1 q)
  rcases t.h with ⟨h1, h2, h3⟩ | ⟨h1, h2, h3⟩
  · intro t
    by_cases q : 2 * t ≤ m
    · obtain ⟨a, b⟩ := h3 (m / 2 - t)
      have l := h3.le (m / 2 - t)
      have e : 2 * (m / 2 - t) = m - 2 * t := by omega
      have hq : 2 * t * 2 ^ d ≤ X := by rw [← h1]; exact Nat.mul_le_mul_right _ q
      rw [e, Nat.sub_mul, h1] at a b l
      constructor <;> constructor <;> intro z <;> omega
    · have : X < 2 * t * 2 ^ d := by rw [← h1]; exact (Nat.mul_lt_mul_right hp).2 (by omega)
      constructor <;> constructor <;> intro z <;> omega
  · intro t
    obtain ⟨a, b⟩ := h3 (t + n / 2)
    have e : 2 * (t + n / 2) = 2 * t + n := by omega
    rw [e, Nat.add_mul, h1] at a b
    constructor <;> constructor <;> intro z <;> omega
theorem exact_small {r W d : Nat} (h : RepU 2 r (8 * W) d) (hd : d ≤ 2) : r * 2 ^ d = 8 * W := by
  have : d = 0 ∨ d = 1 ∨ d = 2 := by omega
  rcases this with rfl | rfl | rfl
  · have := (h (4 * W)).2.2 (by omega); omega
  · have := (h (2 * W)).2.2 (by omega); omega
  · have := (h W).2.2 (by omega); omega
end Go.Lg
namespace Go.Lg
open Ieee
attribute [local irreducible] w64 toU64 toU8 shlU shrU shlB shrB
theorem mkStd {M mag d k : Nat} (h : M * 2 ^ d = 8 * mag ∨ (RepU 2 M (8 * mag) d ∧ 18014398509481984 ≤ M)) : Std M (mag * 2 ^ (k + 3)) (d + k) := by
  have e : mag * 2 ^ (k + 3) = 8 * mag * 2 ^ k := by rw [Nat.pow_add]; grind
  rw [e]
  rcases h with h | ⟨h, h'⟩
  · left; rw [Nat.pow_add, ← Nat.mul_assoc, h]
  · exact .inr ⟨h.scale k, h'⟩
theorem nE (a : UInt64) : (a / 4503599627370496 % 2048).toNat = fE a.toNat := by
  rw [UInt64.toNat_mod, UInt64.toNat_div]; rfl
theorem nM5 (a : UInt64) : (a % 4503599627370496).toNat = fM a.toNat := by
  rw [UInt64.toNat_mod]; rfl
theorem fE_lt (n : Nat) : fE n < 2048 := by unfold fE; omega
theorem fM_lt (n : Nat) : fM n < 4503599627370496 := by unfold fM; omega
theorem ROdd_eq (a : UInt64) : ref05_Odd a = some (decide (fE a.toNat = 2047 ∧ fM a.toNat ≠ 0)) := by
  unfold ref05_Odd
  rw [lett_eq]
  congr 1
  rw [Bool.eq_iff_iff, Bool.and_eq_true, decide_eq_true_eq, decide_eq_true_eq, Bool.not_eq_true', decide_eq_false_iff_not, ← UInt64.toNat_inj, ← UInt64.toNat_inj, nE, nM5]
  exact Iff.rfl
theorem RFin_eq (a : UInt64) : ref05_Finite a = some (decide (fE a.toNat ≠ 2047)) := by
  unfold ref05_Finite
  rw [lett_eq]
  congr 1
  rw [Bool.eq_iff_iff, decide_eq_true_eq, Bool.not_eq_true', decide_eq_false_iff_not, ← UInt64.toNat_inj, nE]
  exact Iff.rfl
theorem wide5_eq (a : UInt64) : ref05_wide a = some (UInt64.ofNat (fW a.toNat), (fX a.toNat : Int)) := by
  have h1 := fE_lt a.toNat
  have h2 := fM_lt a.toNat
  unfold ref05_wide
  rw [nE, w64_nat (by omega), lett_eq, lett_eq]
  unfold fW fX
  have hm : a % 4503599627370496 = UInt64.ofNat (fM a.toNat) := UInt64.toNat_inj.1 (by rw [nM5, UInt64.toNat_ofNat']; omega)
  by_cases h : fE a.toNat = 0
  · rw [bifTd (by omega), if_pos h, if_pos h, hm]; rfl
  · rw [bifFd (by omega), if_neg h, if_neg h, lett_eq, hm]
    refine congrArg some (Prod.ext (UInt64.toNat_inj.1 ?_) rfl)
    rw [UInt64.toNat_add, UInt64.toNat_ofNat', UInt64.toNat_ofNat', show (4503599627370496 : UInt64).toNat = 4503599627370496 from rfl]; omega
theorem prep {W V : UInt64} {e f : Nat} (hW : W.toNat < 9007199254740992) (hV : V.toNat < 9007199254740992) (he : 1 ≤ e ∧ e ≤ 2046) (hf : 1 ≤ f ∧ f ≤ 2046)
    (nW : 1 < e → 4503599627370496 ≤ W.toNat) (nV : 1 < f → 4503599627370496 ≤ V.toNat) :
    ∃ (m n : UInt64) (d g : Nat), (bif decide ((e : Int) < (f : Int)) then (ref05_shifted ((8 : UInt64) * W) (w64 ((f : Int) - (e : Int)))).bind fun r119 => some (r119, (f : Int), (8 : UInt64) * V)
      else (ref05_shifted ((8 : UInt64) * V) (w64 ((e : Int) - (f : Int)))).bind fun r128 => some ((8 : UInt64) * W, (e : Int), r128)) = some (m, (g : Int), n) ∧
      g = max e f ∧ g = min e f + d ∧ Two m.toNat n.toNat (8 * (W.toNat * 2 ^ (e - min e f))) (8 * (V.toNat * 2 ^ (f - min e f))) d ∧ m.toNat < 72057594037927936 ∧ n.toNat < 72057594037927936 ∧
      ((m.toNat * 2 ^ d = 8 * (W.toNat * 2 ^ (e - min e f)) ∧ n.toNat * 2 ^ d = 8 * (V.toNat * 2 ^ (f - min e f))) ∨ (36028797018963968 ≤ m.toNat ∧ n.toNat ≤ 9007199254740993) ∨ (36028797018963968 ≤ n.toNat ∧ m.toNat ≤ 9007199254740993)) := by
  have n8' : (8 : UInt64).toNat = 8 := rfl
  have e8W : ((8 : UInt64) * W).toNat = 8 * W.toNat := by rw [UInt64.toNat_mul, n8']; omega
  have e8V : ((8 : UInt64) * V).toNat = 8 * V.toNat := by rw [UInt64.toNat_mul, n8']; omega
  have small : ∀ (Z : UInt64) (d : Nat), Z.toNat < 9007199254740992 → ((8 : UInt64) * Z).toNat = 8 * Z.toNat → d ≤ 2045 → ∃ r, ref05_shifted ((8 : UInt64) * Z) (d : Int) = some r ∧ RepU 2 r.toNat (8 * Z.toNat) d ∧ r.toNat < 72057594037927936 ∧ (d ≤ 2 → r.toNat * 2 ^ d = 8 * Z.toNat) ∧ (3 ≤ d → r.toNat ≤ 9007199254740993) := by
    intro Z d hZ e8 hd
    obtain ⟨r, r1, r2, r3⟩ := shifted_eq ((8 : UInt64) * Z) (n := d) (by omega)
    rw [e8] at r2 r3
    refine ⟨r, r1, r2, ?_, fun h => exact_small r2 h, fun h => ?_⟩
    · by_cases h0 : d = 0
      · subst h0
        have := exact_small r2 (by omega)
        rw [Nat.pow_zero, Nat.mul_one] at this
        omega
      · have h1 : 2 ^ 1 ≤ 2 ^ d := Nat.pow_le_pow_right (by omega) (by omega)
        have h2 : 8 * Z.toNat / 2 ^ d ≤ 8 * Z.toNat / 2 ^ 1 := Nat.div_le_div_left h1 (by omega)
        rw [Nat.pow_one] at h2
        omega
    · have h1 : 2 ^ 3 ≤ 2 ^ d := Nat.pow_le_pow_right (by omega) h
      have h2 : 8 * Z.toNat / 2 ^ d ≤ 8 * Z.toNat / 2 ^ 3 := Nat.div_le_div_left h1 (by omega)
      rw [show (2 : Nat) ^ 3 = 8 from rfl] at h2
      omega
  by_cases h : e < f
  · obtain ⟨r, r1, r2, r3, r4, r5⟩ := small W (f - e) hW e8W (by omega)
    have hm : min e f = e := by omega
    have hx : (8 : UInt64) * V = (8 : UInt64) * V := rfl
    have ex : ((8 : UInt64) * V).toNat * 2 ^ (f - e) = 8 * (V.toNat * 2 ^ (f - e)) := by rw [e8V, Nat.mul_assoc]
    refine ⟨r, (8 : UInt64) * V, f - e, f, ?_, by omega, by omega, ?_, r3, by rw [e8V]; omega, ?_⟩
    · rw [bifTd (by omega), show (f : Int) - (e : Int) = ((f - e : Nat) : Int) by omega, w64_nat (by omega), r1, bind_some]
    · rw [hm, Nat.sub_self, Nat.pow_zero, Nat.mul_one]
      exact ⟨.inr ⟨ex, by rw [e8V]; omega, r2⟩⟩
    · rw [hm, Nat.sub_self, Nat.pow_zero, Nat.mul_one]
      by_cases hd : f - e ≤ 2
      · exact .inl ⟨r4 hd, ex⟩
      · refine .inr (.inr ⟨?_, r5 (by omega)⟩)
        rw [e8V]
        have := nV (by omega)
        omega
  · obtain ⟨r, r1, r2, r3, r4, r5⟩ := small V (e - f) hV e8V (by omega)
    have hm : min e f = f := by omega
    have ex : ((8 : UInt64) * W).toNat * 2 ^ (e - f) = 8 * (W.toNat * 2 ^ (e - f)) := by rw [e8W, Nat.mul_assoc]
    refine ⟨(8 : UInt64) * W, r, e - f, e, ?_, by omega, by omega, ?_, by rw [e8W]; omega, r3, ?_⟩
    · rw [bifFd (by omega), show (e : Int) - (f : Int) = ((e - f : Nat) : Int) by omega, w64_nat (by omega), r1, bind_some]
    · rw [hm, Nat.sub_self, Nat.pow_zero, Nat.mul_one]
      exact ⟨.inl ⟨ex, by rw [e8W]; omega, r2⟩⟩
    · rw [hm, Nat.sub_self, Nat.pow_zero, Nat.mul_one]
      by_cases hd : e - f ≤ 2
      · exact .inl ⟨ex, r4 hd⟩
      · refine .inr (.inl ⟨?_, r5 (by omega)⟩)
        rw [e8W]
        have := nW (by omega)
        omega
end Go.Lg
namespace Go.Lg
open Ieee
attribute [local irreducible] w64 toU64 toU8 shlU shrU shlB shrB
theorem signed_eq (s : Bool) (m k : Nat) : signed s m k = if s then -((m * 2 ^ k : Nat) : Int) else ((m * 2 ^ k : Nat) : Int) := by
  unfold signed
  rw [Nat.shiftLeft_eq]
/-- the word of a sum of two numbers -/
theorem sum_write {s t : Bool} {W V e f : Nat} : (Datum.number s W ((e : Int) - 1075)).sum (Datum.number t V ((f : Int) - 1075)) =
    some (.number (if s = t then (if W * 2 ^ (e - min e f) + V * 2 ^ (f - min e f) = 0 then s else s) else if W * 2 ^ (e - min e f) = V * 2 ^ (f - min e f) then false else if V * 2 ^ (f - min e f) < W * 2 ^ (e - min e f) then s else t)
      (if s = t then W * 2 ^ (e - min e f) + V * 2 ^ (f - min e f) else if V * 2 ^ (f - min e f) ≤ W * 2 ^ (e - min e f) then W * 2 ^ (e - min e f) - V * 2 ^ (f - min e f) else V * 2 ^ (f - min e f) - W * 2 ^ (e - min e f)) ((min e f : Nat) - 1075)) := by
  have hb : min ((e : Int) - 1075) ((f : Int) - 1075) = ((min e f : Nat) : Int) - 1075 := by omega
  unfold Datum.sum
  simp only [hb]
  rw [show ((e : Int) - 1075 - (((min e f : Nat) : Int) - 1075)).toNat = e - min e f by omega, show ((f : Int) - 1075 - (((min e f : Nat) : Int) - 1075)).toNat = f - min e f by omega, signed_eq, signed_eq]
  generalize W * 2 ^ (e - min e f) = X
  generalize V * 2 ^ (f - min e f) = Y
  refine congrArg some ?_
  cases s <;> cases t <;> simp only [if_true, if_false, Bool.false_eq_true, reduceCtorEq, ite_self] <;> congr 1
  · by_cases h : (X : Int) + Y = 0
    · rw [if_pos h]; rfl
    · rw [if_neg h]; exact decide_eq_false (by omega)
  · by_cases h : (X : Int) + -Y = 0
    · rw [if_pos h, if_pos (by omega)]; rfl
    · rw [if_neg h, if_neg (by omega)]
      by_cases q : Y < X
      · rw [if_pos q]; exact decide_eq_false (by omega)
      · rw [if_neg q]; exact decide_eq_true (by omega)
  · split <;> omega
  · by_cases h : -(X : Int) + Y = 0
    · rw [if_pos h, if_pos (by omega)]; rfl
    · rw [if_neg h, if_neg (by omega)]
      by_cases q : Y < X
      · rw [if_pos q]; exact decide_eq_true (by omega)
      · rw [if_neg q]; exact decide_eq_false (by omega)
  · split <;> omega
  · by_cases h : -(X : Int) + -Y = 0
    · rw [if_pos h]; rfl
    · rw [if_neg h]; exact decide_eq_true (by omega)
  · omega
theorem fW_facts (n : Nat) : fW n < 9007199254740992 ∧ (1 < fX n → 4503599627370496 ≤ fW n) ∧ 1 ≤ fX n ∧ (fW n = 0 → fE n = 0 ∧ fM n = 0) := by
  have h2 := fM_lt n
  unfold fW fX
  split <;> omega
theorem fX_le {n : Nat} (h : fE n ≠ 2047) : fX n ≤ 2046 := by
  have := fE_lt n
  unfold fX
  split <;> omega
theorem nearest_zero (s : Bool) (p : Int) : double.nearest s 0 p = if s then 9223372036854775808 else 0 := by
  have hsw : double.signWeight = 9223372036854775808 := by decide
  unfold Format.nearest Format.word
  rw [if_pos rfl, hsw]
theorem word_zero {a : UInt64} (hE : fE a.toNat = 0) (hM : fM a.toNat = 0) : a = UInt64.ofNat (if fS a.toNat then 9223372036854775808 else 0) := by
  have h := UInt64.toNat_lt a
  apply UInt64.toNat_inj.1
  unfold fE fM at *
  unfold fS
  rw [UInt64.toNat_ofNat']
  by_cases q : 9223372036854775808 ≤ a.toNat
  · rw [decide_eq_true q, if_pos rfl]; omega
  · rw [decide_eq_false q, if_neg (by simp)]; omega
theorem Add_fin {a b : UInt64} (ha : fE a.toNat ≠ 2047) (hb : fE b.toNat ≠ 2047) : ref05_Add a b = some (fAdd a b) := by
  have oa : ref05_Odd a = some false := by rw [ROdd_eq, decide_eq_false (fun e => ha e.1)]
  have ob : ref05_Odd b = some false := by rw [ROdd_eq, decide_eq_false (fun e => hb e.1)]
  have fa : ref05_Finite a = some true := by rw [RFin_eq, decide_eq_true ha]
  have fb : ref05_Finite b = some true := by rw [RFin_eq, decide_eq_true hb]
  obtain ⟨w1, w2, w3, w4⟩ := fW_facts a.toNat
  obtain ⟨v1, v2, v3, v4⟩ := fW_facts b.toNat
  have x1 := fX_le ha
  have x2 := fX_le hb
  have eW : (UInt64.ofNat (fW a.toNat)).toNat = fW a.toNat := by rw [UInt64.toNat_ofNat']; omega
  have eV : (UInt64.ofNat (fW b.toNat)).toNat = fW b.toNat := by rw [UInt64.toNat_ofNat']; omega
  obtain ⟨m, n, d, g, p1, p2, p3, p4, p5, p6, p7⟩ := prep (W := UInt64.ofNat (fW a.toNat)) (V := UInt64.ofNat (fW b.toNat)) (e := fX a.toNat) (f := fX b.toNat) (by rw [eW]; exact w1) (by rw [eV]; exact v1) ⟨w3, x1⟩ ⟨v3, x2⟩ (by rw [eW]; exact w2) (by rw [eV]; exact v2)
  rw [eW, eV] at p4 p7
  have sA : decide (9223372036854775808 ≤ a) = fS a.toNat := by
    unfold fS; rw [decide_eq_decide, UInt64.le_iff_toNat_le]; exact Iff.rfl
  have sB : decide (9223372036854775808 ≤ b) = fS b.toNat := by
    unfold fS; rw [decide_eq_decide, UInt64.le_iff_toNat_le]; exact Iff.rfl
  unfold fAdd Format.add
  rw [read_eq (UInt64.toNat_lt a), read_eq (UInt64.toNat_lt b), if_neg ha, if_neg hb, sum_write]
  simp only [Option.map_some, Format.write]
  unfold ref05_Add
  rw [oa, bind_some, bifF rfl, ob, bind_some, bind_some, bifF rfl, fa, bind_some, bifF (by rfl), bind_some, bifF (by rfl), bind_some, bifF (by rfl), fb, bind_some, bifF (by rfl), wide5_eq, wide5_eq, bind_some]
  dsimp only
  rw [bind_some]
  dsimp only
  rw [lett_eq, lett_eq, p1, bind_some]
  dsimp only
  rw [lett_eq, lett_eq, sA, sB]
  generalize hX : fW a.toNat * 2 ^ (fX a.toNat - min (fX a.toNat) (fX b.toNat)) = X at *
  generalize hY : fW b.toNat * 2 ^ (fX b.toNat - min (fX a.toNat) (fX b.toNat)) = Y at *
  have hlt := p4.lt
  have hlt' := p4.swap.lt
  have z0 : (0 : UInt64).toNat = 0 := rfl
  have Xz : X = 0 → fE a.toNat = 0 ∧ fM a.toNat = 0 := by
    intro h
    rw [← hX] at h
    rcases Nat.mul_eq_zero.1 h with h | h
    · exact w4 h
    · have := Nat.two_pow_pos (fX a.toNat - min (fX a.toNat) (fX b.toNat)); omega
  have mz : m.toNat = 0 ↔ X = 0 := by
    rcases p4.h with ⟨h1, _⟩ | ⟨_, _, h3⟩
    · have := Nat.two_pow_pos d
      constructor
      · intro q; rw [q, Nat.zero_mul] at h1; omega
      · intro q; rw [q] at h1
        rcases Nat.mul_eq_zero.1 h1 with h | h
        · exact h
        · omega
    · have := (h3 0).2
      simp only [Nat.mul_zero, Nat.zero_mul] at this
      omega
  have nz : n.toNat = 0 ↔ Y = 0 := by
    rcases p4.h with ⟨_, _, h3⟩ | ⟨h1, _⟩
    · have := (h3 0).2
      simp only [Nat.mul_zero, Nat.zero_mul] at this
      omega
    · have := Nat.two_pow_pos d
      constructor
      · intro q; rw [q, Nat.zero_mul] at h1; omega
      · intro q; rw [q] at h1
        rcases Nat.mul_eq_zero.1 h1 with h | h
        · exact h
        · omega
  obtain ⟨k, hk⟩ : ∃ k : Nat, k = 2197 := ⟨_, rfl⟩
  have R : ∀ (M : UInt64) (mag : Nat) (neg : Bool), mag ≠ 0 → (M.toNat * 2 ^ d = 8 * mag ∨ (RepU 2 M.toNat (8 * mag) d ∧ 18014398509481984 ≤ M.toNat)) → M.toNat < 288230376151711744 →
      ref05_round M (g : Int) neg = some (UInt64.ofNat (double.nearest neg mag (((min (fX a.toNat) (fX b.toNat) : Nat) : Int) - 1075))) := by
    intro M mag neg h0 h1 h2
    exact round_eq h0 (mkStd (k := k) h1) (by omega) (by omega) h2 (by omega) (by omega)
  by_cases hs : fS a.toNat = fS b.toNat
  · rw [bifTd hs, if_pos hs, if_pos hs, ite_self]
    by_cases h0 : X + Y = 0
    · have hx := Xz (by omega)
      rw [h0, nearest_zero, bifT, ← word_zero hx.1 hx.2]
      rw [Bool.and_eq_true, decide_eq_true_eq, decide_eq_true_eq, ← UInt64.toNat_inj, ← UInt64.toNat_inj, z0]
      exact ⟨mz.2 (by omega), nz.2 (by omega)⟩
    · have hsum : (m + n).toNat = m.toNat + n.toNat := by rw [UInt64.toNat_add]; omega
      rw [bifF, R (m + n) (X + Y) _ h0 _ (by omega), bind_some]
      · rw [hsum]
        rcases p7 with ⟨q1, q2⟩ | ⟨q1, q2⟩ | ⟨q1, q2⟩
        · left; rw [Nat.add_mul, q1, q2]; omega
        · right
          have := p4.add
          rw [← Nat.mul_add] at this
          exact ⟨this, by omega⟩
        · right
          have := p4.add
          rw [← Nat.mul_add] at this
          exact ⟨this, by omega⟩
      · rw [Bool.and_eq_false_iff, decide_eq_false_iff_not, decide_eq_false_iff_not, ← UInt64.toNat_inj, ← UInt64.toNat_inj, z0, mz, nz]; omega
  · rw [bifFd hs, if_neg hs, if_neg hs]
    by_cases hle : n.toNat ≤ m.toNat
    · have hYX : Y ≤ X := by
        rcases Nat.lt_or_eq_of_le hle with q | q
        · have := hlt.1.1 q; omega
        · have := hlt.2.1 q; omega
      have hsub : (m - n).toNat = m.toNat - n.toNat := by rw [UInt64.toNat_sub]; omega
      rw [bifTd (by rw [UInt64.le_iff_toNat_le]; exact hle), if_pos hYX]
      by_cases heq : X = Y
      · have he : n.toNat = m.toNat := hlt.2.2 (by omega)
        rw [if_pos heq, heq, Nat.sub_self, nearest_zero]
        have hz : m - n = 0 := UInt64.toNat_inj.1 (by rw [hsub, z0]; omega)
        rw [hz]
        unfold ref05_round
        rw [bifTd rfl, bind_some]; rfl
      · have hl : n.toNat < m.toNat := hlt.1.2 (by omega)
        rw [if_neg heq, if_pos (by omega), show (fS a.toNat && decide (n < m)) = fS a.toNat by rw [decide_eq_true (UInt64.lt_iff_toNat_lt.2 hl), Bool.and_true]]
        rw [R (m - n) (X - Y) _ (by omega) _ (by omega), bind_some]
        rw [hsub]
        rcases p7 with ⟨q1, q2⟩ | ⟨q1, q2⟩ | ⟨q1, q2⟩
        · left; rw [Nat.sub_mul, q1, q2]; omega
        · right
          have := p4.sub hle
          rw [← Nat.mul_sub] at this
          exact ⟨this, by omega⟩
        · omega
    · have hYX : ¬ Y ≤ X := by
        have := hlt'.1.1 (by omega); omega
      have hsub : (n - m).toNat = n.toNat - m.toNat := by rw [UInt64.toNat_sub]; omega
      rw [bifFd (by rw [UInt64.le_iff_toNat_le]; exact hle), if_neg hYX, if_neg (by omega), if_neg (by omega)]
      rw [R (n - m) (Y - X) _ (by omega) _ (by omega), bind_some]
      rw [hsub]
      rcases p7 with ⟨q1, q2⟩ | ⟨q1, q2⟩ | ⟨q1, q2⟩
      · left; rw [Nat.sub_mul, q1, q2]; omega
      · omega
      · right
        have := p4.swap.sub (by omega)
        rw [← Nat.mul_sub] at this
        exact ⟨this, by omega⟩
end Go.Lg
namespace Go.Lg
open Ieee
attribute [local irreducible] w64 toU64 toU8 shlU shrU shlB shrB
theorem inf_word {a : UInt64} (hE : fE a.toNat = 2047) (hM : fM a.toNat = 0) : UInt64.ofNat (double.write (.infinity (fS a.toNat))) = a := by
  have h := UInt64.toNat_lt a
  have hsw : double.signWeight = 9223372036854775808 := by decide
  have hinf : double.infRung = 9218868437227405312 := by decide
  apply UInt64.toNat_inj.1
  unfold fE fM at *
  unfold Format.write Format.word fS
  dsimp only
  rw [hsw, hinf, UInt64.toNat_ofNat']
  by_cases q : 9223372036854775808 ≤ a.toNat
  · rw [decide_eq_true q, if_pos rfl]; omega
  · rw [decide_eq_false q, if_neg (by simp)]; omega
theorem Add_eq (a b : UInt64) : ref05_Add a b = some (fAdd a b) := by
  have ra := read_eq (UInt64.toNat_lt a)
  have rb := read_eq (UInt64.toNat_lt b)
  by_cases oa : fE a.toNat = 2047 ∧ fM a.toNat ≠ 0
  · rw [if_pos oa.1, if_neg oa.2] at ra
    have : fAdd a b = 9221120237041090561 := by
      unfold fAdd Format.add
      rw [ra]; rfl
    rw [this]
    unfold ref05_Add
    rw [ROdd_eq, decide_eq_true oa, bind_some, bifT rfl, bind_some, bifT rfl]
  by_cases ob : fE b.toNat = 2047 ∧ fM b.toNat ≠ 0
  · rw [if_pos ob.1, if_neg ob.2] at rb
    have : fAdd a b = 9221120237041090561 := by
      unfold fAdd Format.add
      rw [rb]
      generalize double.read a.toNat = x
      cases x <;> rfl
    rw [this]
    unfold ref05_Add
    rw [ROdd_eq, decide_eq_false oa, bind_some, bifF rfl, ROdd_eq, decide_eq_true ob, bind_some, bind_some, bifT rfl]
  by_cases ia : fE a.toNat = 2047
  · have Ma : fM a.toNat = 0 := Decidable.byContradiction fun q => oa ⟨ia, q⟩
    rw [if_pos ia, if_pos Ma] at ra
    have fa : ref05_Finite a = some false := by rw [RFin_eq, decide_eq_false (fun e => e ia)]
    have wa := inf_word ia Ma
    by_cases ib : fE b.toNat = 2047
    · have Mb : fM b.toNat = 0 := Decidable.byContradiction fun q => ob ⟨ib, q⟩
      rw [if_pos ib, if_pos Mb] at rb
      have fb : ref05_Finite b = some false := by rw [RFin_eq, decide_eq_false (fun e => e ib)]
      have wb := inf_word ib Mb
      unfold fAdd Format.add
      rw [ra, rb]
      unfold ref05_Add
      rw [ROdd_eq, decide_eq_false oa, bind_some, bifF rfl, ROdd_eq, decide_eq_false ob, bind_some, bind_some, bifF rfl, fa, bind_some, bifT (by rfl), fb, bind_some, bind_some]
      by_cases h : fS a.toNat = fS b.toNat
      · have hab : a = b := by rw [← wa, ← wb, h]
        rw [bifF (by rw [hab]; simp), bind_some, bifT (by rfl)]
        simp only [Datum.sum, if_pos h, Option.map_some]
        rw [wa]
      · have hab : a ≠ b := fun e => h (by rw [e])
        rw [bifT (by simp [hab])]
        simp only [Datum.sum, if_neg h, Option.map_none]
    · rw [if_neg ib] at rb
      have fb : ref05_Finite b = some true := by rw [RFin_eq, decide_eq_true ib]
      unfold fAdd Format.add
      rw [ra, rb]
      unfold ref05_Add
      rw [ROdd_eq, decide_eq_false oa, bind_some, bifF rfl, ROdd_eq, decide_eq_false ob, bind_some, bind_some, bifF rfl, fa, bind_some, bifT (by rfl), fb, bind_some, bind_some, bifF (by rfl), bind_some, bifT (by rfl)]
      simp only [Datum.sum, Option.map_some]
      rw [wa]
  · by_cases ib : fE b.toNat = 2047
    · have Mb : fM b.toNat = 0 := Decidable.byContradiction fun q => ob ⟨ib, q⟩
      rw [if_pos ib, if_pos Mb] at rb
      rw [if_neg ia] at ra
      have fa : ref05_Finite a = some true := by rw [RFin_eq, decide_eq_true ia]
      have fb : ref05_Finite b = some false := by rw [RFin_eq, decide_eq_false (fun e => e ib)]
      have wb := inf_word ib Mb
      unfold fAdd Format.add
      rw [ra, rb]
      unfold ref05_Add
      rw [ROdd_eq, decide_eq_false oa, bind_some, bifF rfl, ROdd_eq, decide_eq_false ob, bind_some, bind_some, bifF rfl, fa, bind_some, bifF (by rfl), bind_some, bifF (by rfl), bind_some, bifF (by rfl), fb, bind_some, bifT (by rfl)]
      simp only [Datum.sum, Option.map_some]
      rw [wb]
    · exact Add_fin ia ib
end Go.Lg
namespace Go.Lg
open Ieee
attribute [local irreducible] w64 toU64 toU8 shlU shrU shlB shrB
theorem fW_congr {m n : Nat} (h : fE m = fE n) (h' : fM m = fM n) : fW m = fW n ∧ fX m = fX n := by
  unfold fW fX
  rw [h, h']
  exact ⟨rfl, rfl⟩
/-! ### which is below -/
/-- a finite float's size in the least unit -/
def fZ (n : Nat) : Nat := fW n * 2 ^ (fX n - 1)
theorem fZ_mono {m n : Nat} (hm : fE m ≠ 2047) (hn : fE n ≠ 2047) : (fZ m < fZ n ↔ m % 9223372036854775808 < n % 9223372036854775808) := by
  have key : ∀ {m n : Nat}, fE m ≠ 2047 → fE n ≠ 2047 → m % 9223372036854775808 < n % 9223372036854775808 → fZ m < fZ n := by
    intro m n hm hn h
    have a1 := fM_lt m; have a2 := fM_lt n; have b1 := fE_lt m; have b2 := fE_lt n
    have em : m % 9223372036854775808 = fE m * 4503599627370496 + fM m := by unfold fE fM; omega
    have en : n % 9223372036854775808 = fE n * 4503599627370496 + fM n := by unfold fE fM; omega
    rw [em, en] at h
    unfold fZ
    by_cases he : fX m = fX n
    · rw [he]
      have hp := Nat.two_pow_pos (fX n - 1)
      refine (Nat.mul_lt_mul_right hp).2 ?_
      unfold fX at he
      unfold fW
      split at he <;> split at he <;> simp only [*, if_true, if_false] <;> omega
    · have hlt : fX m < fX n := by
        unfold fX at *
        split <;> split <;> simp_all <;> omega
      have hn0 : fE n ≠ 0 := by
        intro e
        unfold fX at hlt
        rw [if_pos e] at hlt
        split at hlt <;> omega
      have hwn : 4503599627370496 ≤ fW n := by unfold fW; rw [if_neg hn0]; omega
      have hwm : fW m < 9007199254740992 := (fW_facts m).1
      have hfm : 1 ≤ fX m := (fW_facts m).2.2.1
      have e1 : 2 ^ (fX n - 1) = 2 ^ (fX m - 1) * 2 ^ (fX n - fX m) := by rw [← Nat.pow_add]; congr 1; omega
      have h2 : 2 ^ 1 ≤ 2 ^ (fX n - fX m) := Nat.pow_le_pow_right (by omega) (by omega)
      rw [Nat.pow_one] at h2
      have hp := Nat.two_pow_pos (fX m - 1)
      have l1 : fW m * 2 ^ (fX m - 1) < 9007199254740992 * 2 ^ (fX m - 1) := (Nat.mul_lt_mul_right hp).2 hwm
      have l2 : 4503599627370496 * (2 ^ (fX m - 1) * 2) ≤ fW n * (2 ^ (fX m - 1) * 2 ^ (fX n - fX m)) := Nat.mul_le_mul hwn (Nat.mul_le_mul_left _ h2)
      rw [e1]
      omega
  constructor
  · intro h
    apply Decidable.byContradiction
    intro q
    by_cases e : m % 9223372036854775808 = n % 9223372036854775808
    · have a : fE m = fE n := by unfold fE; omega
      have b : fM m = fM n := by unfold fM; omega
      obtain ⟨c, d⟩ := fW_congr a b
      unfold fZ at h
      rw [c, d] at h
      omega
    · have := key hn hm (by omega)
      omega
  · exact key hm hn
theorem fZ_scale (n : Nat) (B : Nat) (hB : 1 ≤ B) (h : B ≤ fX n) : fW n * 2 ^ (fX n - B) * 2 ^ (B - 1) = fZ n := by
  unfold fZ
  rw [Nat.mul_assoc, ← Nat.pow_add]
  congr 2; omega
theorem order_fin {a b : Nat} (ha : a < 18446744073709551616) (hb : b < 18446744073709551616) (fa : fE a ≠ 2047) (fb : fE b ≠ 2047) :
    (double.order a b = some .lt) ↔ ((if fS a then -(fZ a : Int) else (fZ a : Int)) < (if fS b then -(fZ b : Int) else (fZ b : Int))) := by
  have ra := read_eq ha
  have rb := read_eq hb
  rw [if_neg fa] at ra
  rw [if_neg fb] at rb
  have xa := (fW_facts a).2.2.1
  have xb := (fW_facts b).2.2.1
  unfold Format.order
  rw [ra, rb]
  unfold Datum.order
  have hbm : min ((fX a : Int) - 1075) ((fX b : Int) - 1075) = ((min (fX a) (fX b) : Nat) : Int) - 1075 := by omega
  simp only [hbm]
  rw [show ((fX a : Int) - 1075 - (((min (fX a) (fX b) : Nat) : Int) - 1075)).toNat = fX a - min (fX a) (fX b) by omega, show ((fX b : Int) - 1075 - (((min (fX a) (fX b) : Nat) : Int) - 1075)).toNat = fX b - min (fX a) (fX b) by omega, signed_eq, signed_eq]
  have s1 := fZ_scale a (min (fX a) (fX b)) (by omega) (by omega)
  have s2 := fZ_scale b (min (fX a) (fX b)) (by omega) (by omega)
  have hp := Nat.two_pow_pos (min (fX a) (fX b) - 1)
  generalize fW a * 2 ^ (fX a - min (fX a) (fX b)) = X at *
  generalize fW b * 2 ^ (fX b - min (fX a) (fX b)) = Y at *
  generalize 2 ^ (min (fX a) (fX b) - 1) = P at *
  rw [← s1, ← s2]
  have c1 : X * P < Y * P ↔ X < Y := Nat.mul_lt_mul_right hp
  have c2 : Y * P < X * P ↔ Y < X := Nat.mul_lt_mul_right hp
  have z1 : X * P = 0 ↔ X = 0 := by rw [Nat.mul_eq_zero]; omega
  have z2 : Y * P = 0 ↔ Y = 0 := by rw [Nat.mul_eq_zero]; omega
  rw [Option.some.injEq, Int.compare_eq_lt]
  generalize X * P = X' at *
  generalize Y * P = Y' at *
  cases fS a <;> cases fS b <;> simp only [if_true, if_false, Bool.false_eq_true] <;> omega
end Go.Lg
namespace Go.Lg
open Ieee
attribute [local irreducible] w64 toU64 toU8 shlU shrU shlB shrB
theorem less_odd {a b : UInt64} (h : fOdd a.toNat = true ∨ fOdd b.toNat = true) : fLess a b = false := by
  have ra := read_eq (UInt64.toNat_lt a)
  have rb := read_eq (UInt64.toNat_lt b)
  unfold fLess Format.order
  rcases h with h | h
  · have h := of_decide_eq_true h
    rw [if_pos h.1, if_neg h.2] at ra
    rw [ra]; rfl
  · have h := of_decide_eq_true h
    rw [if_pos h.1, if_neg h.2] at rb
    rw [rb]
    generalize double.read a.toNat = x
    cases x <;> rfl
def lessN (a b : Nat) : Bool :=
  if a % 9223372036854775808 = 0 ∧ b % 9223372036854775808 = 0 then false
  else if fS a = true ∧ fS b = true then decide (b % 9223372036854775808 < a % 9223372036854775808)
  else if fS a = false ∧ fS b = false then decide (a % 9223372036854775808 < b % 9223372036854775808)
  else fS a
theorem fLess_eq {a b : UInt64} (oa : fOdd a.toNat = false) (ob : fOdd b.toNat = false) : fLess a b = lessN a.toNat b.toNat := by
  have la := UInt64.toNat_lt a
  have lb := UInt64.toNat_lt b
  have oa := of_decide_eq_false oa
  have ob := of_decide_eq_false ob
  have ra := read_eq la
  have rb := read_eq lb
  have a1 := fM_lt a.toNat; have a2 := fE_lt a.toNat; have b1 := fM_lt b.toNat; have b2 := fE_lt b.toNat
  have em : a.toNat % 9223372036854775808 = fE a.toNat * 4503599627370496 + fM a.toNat := by unfold fE fM; omega
  have en : b.toNat % 9223372036854775808 = fE b.toNat * 4503599627370496 + fM b.toNat := by unfold fE fM; omega
  unfold fLess
  generalize a.toNat = m at *
  generalize b.toNat = n at *
  by_cases ia : fE m = 2047
  · have Ma : fM m = 0 := Decidable.byContradiction fun q => oa ⟨ia, q⟩
    rw [if_pos ia, if_pos Ma] at ra
    by_cases ib : fE n = 2047
    · have Mb : fM n = 0 := Decidable.byContradiction fun q => ob ⟨ib, q⟩
      rw [if_pos ib, if_pos Mb] at rb
      unfold Format.order lessN
      rw [ra, rb, em, en, ia, ib, Ma, Mb]
      cases fS m <;> cases fS n <;> decide
    · rw [if_neg ib] at rb
      unfold Format.order lessN
      rw [ra, rb, em, en, ia, Ma, if_neg (by omega)]
      cases fS m <;> cases fS n <;> simp [Datum.order] <;> omega
  · rw [if_neg ia] at ra
    by_cases ib : fE n = 2047
    · have Mb : fM n = 0 := Decidable.byContradiction fun q => ob ⟨ib, q⟩
      rw [if_pos ib, if_pos Mb] at rb
      unfold Format.order lessN
      rw [ra, rb, em, en, ib, Mb, if_neg (by omega)]
      cases fS m <;> cases fS n <;> simp [Datum.order] <;> omega
    · have ho := order_fin la lb ia ib
      have h1 := fZ_mono ia ib
      have h2 := fZ_mono ib ia
      have hz : ∀ k, fE k ≠ 2047 → (fZ k = 0 ↔ k % 9223372036854775808 = 0) := by
        intro k _
        have hp := Nat.two_pow_pos (fX k - 1)
        unfold fZ
        rw [Nat.mul_eq_zero]
        constructor
        · intro q
          rcases q with q | q
          · have := (fW_facts k).2.2.2 q
            unfold fE fM at this; omega
          · omega
        · intro q
          left
          have e : fE k = 0 := by unfold fE; omega
          have e2 : fM k = 0 := by unfold fM; omega
          unfold fW; rw [if_pos e, e2]
      have z1 := hz m ia
      have z2 := hz n ib
      clear em en
      rw [Bool.eq_iff_iff, beq_iff_eq, ho]
      unfold lessN
      generalize m % 9223372036854775808 = x at *
      generalize n % 9223372036854775808 = y at *
      generalize fZ m = X at *
      generalize fZ n = Y at *
      clear ho ra rb hz
      generalize fS m = s
      generalize fS n = t
      by_cases h0 : x = 0 ∧ y = 0
      · have hX := z1.2 h0.1
        have hY := z2.2 h0.2
        rw [if_pos h0, hX, hY]
        cases s <;> cases t <;> simp
      · rw [if_neg h0]
        cases s <;> cases t
        · rw [if_neg (by simp), if_neg (by simp), if_neg (by simp), if_pos ⟨rfl, rfl⟩, decide_eq_true_eq]; omega
        · rw [if_neg (by simp), if_pos rfl, if_neg (by simp), if_neg (by simp)]
          simp only [Bool.false_eq_true, iff_false]; omega
        · rw [if_pos rfl, if_neg (by simp), if_neg (by simp), if_neg (by simp)]
          simp only [iff_true]; omega
        · rw [if_pos rfl, if_pos rfl, if_pos ⟨rfl, rfl⟩, decide_eq_true_eq]; omega
theorem Less_eq (a b : UInt64) : ref05_Less a b = some (fLess a b) := by
  have n63 : (9223372036854775808 : UInt64).toNat = 9223372036854775808 := rfl
  have z0 : (0 : UInt64).toNat = 0 := rfl
  unfold ref05_Less
  rw [ROdd_eq, ROdd_eq, bind_some]
  by_cases oa : fOdd a.toNat = true
  · rw [less_odd (.inl oa), show decide (fE a.toNat = 2047 ∧ fM a.toNat ≠ 0) = true from oa, bifT rfl, bind_some, bifT rfl]
  rw [show decide (fE a.toNat = 2047 ∧ fM a.toNat ≠ 0) = false from Bool.eq_false_iff.2 oa, bifF rfl, bind_some, bind_some]
  by_cases ob : fOdd b.toNat = true
  · rw [less_odd (.inr ob), show decide (fE b.toNat = 2047 ∧ fM b.toNat ≠ 0) = true from ob, bifT rfl]
  rw [show decide (fE b.toNat = 2047 ∧ fM b.toNat ≠ 0) = false from Bool.eq_false_iff.2 ob, bifF rfl, fLess_eq (Bool.eq_false_iff.2 oa) (Bool.eq_false_iff.2 ob), lett_eq, lett_eq]
  have ea : (a % 9223372036854775808).toNat = a.toNat % 9223372036854775808 := by rw [UInt64.toNat_mod, n63]
  have eb : (b % 9223372036854775808).toNat = b.toNat % 9223372036854775808 := by rw [UInt64.toNat_mod, n63]
  unfold lessN
  by_cases h0 : a.toNat % 9223372036854775808 = 0 ∧ b.toNat % 9223372036854775808 = 0
  · rw [if_pos h0, bifT]
    rw [Bool.and_eq_true, decide_eq_true_eq, decide_eq_true_eq, ← UInt64.toNat_inj, ← UInt64.toNat_inj, ea, eb, z0]; exact h0
  rw [if_neg h0, bifF (by rw [← Bool.decide_and, decide_eq_false_iff_not, ← UInt64.toNat_inj, ← UInt64.toNat_inj, ea, eb, z0]; exact h0)]
  have sa : decide (9223372036854775808 ≤ a) = fS a.toNat := by unfold fS; rw [decide_eq_decide, UInt64.le_iff_toNat_le]; exact Iff.rfl
  have sb : decide (9223372036854775808 ≤ b) = fS b.toNat := by unfold fS; rw [decide_eq_decide, UInt64.le_iff_toNat_le]; exact Iff.rfl
  have ta : decide (a < 9223372036854775808) = !fS a.toNat := by
    unfold fS; rw [Bool.eq_iff_iff, decide_eq_true_eq, Bool.not_eq_true', decide_eq_false_iff_not, UInt64.lt_iff_toNat_lt, n63]; omega
  have tb : decide (b < 9223372036854775808) = !fS b.toNat := by
    unfold fS; rw [Bool.eq_iff_iff, decide_eq_true_eq, Bool.not_eq_true', decide_eq_false_iff_not, UInt64.lt_iff_toNat_lt, n63]; omega
  have l1 : decide (b % 9223372036854775808 < a % 9223372036854775808) = decide (b.toNat % 9223372036854775808 < a.toNat % 9223372036854775808) := by
    rw [decide_eq_decide, UInt64.lt_iff_toNat_lt, ea, eb]
  have l2 : decide (a % 9223372036854775808 < b % 9223372036854775808) = decide (a.toNat % 9223372036854775808 < b.toNat % 9223372036854775808) := by
    rw [decide_eq_decide, UInt64.lt_iff_toNat_lt, ea, eb]
  rw [sa, sb, ta, tb, l1, l2]
  cases fS a.toNat <;> cases fS b.toNat <;> rfl
end Go.Lg
namespace Go.Lg
attribute [local irreducible] w64 toU64 toU8 shlU shrU shlB shrB
end Go.Lg
namespace Go.Lg
open Ieee
attribute [local irreducible] w64 toU64 toU8 shlU shrU shlB shrB
theorem and_exp (n : Nat) : n &&& 9218868437227405312 = fE n * 4503599627370496 := by
  have h : n &&& (2047 <<< 52) = ((n >>> 52) &&& 2047) <<< 52 := by
    apply Nat.eq_of_testBit_eq
    intro i
    simp only [Nat.testBit_and, Nat.testBit_shiftLeft, Nat.testBit_shiftRight]
    by_cases q : 52 ≤ i
    · rw [decide_eq_true q, Bool.true_and, Bool.true_and, show 52 + (i - 52) = i by omega]
    · rw [decide_eq_false q, Bool.false_and, Bool.and_false, Bool.false_and]
  have e1 : (2047 <<< 52 : Nat) = 9218868437227405312 := by decide
  have e2 : (2 : Nat) ^ 52 = 4503599627370496 := by decide
  have e3 : (2047 : Nat) = 2 ^ 11 - 1 := by decide
  rw [e1] at h
  rw [h, e3, Nat.and_two_pow_sub_one_eq_mod, Nat.shiftLeft_eq, Nat.shiftRight_eq_div_pow, e2]; rfl
theorem numFinite_eq (a : UInt64) : num_Finite a = some (decide (fE a.toNat ≠ 2047)) := by
  unfold num_Finite
  rw [lett_eq]
  congr 1
  rw [Bool.eq_iff_iff, Bool.not_eq_true', decide_eq_false_iff_not, decide_eq_true_eq, ← UInt64.toNat_inj, UInt64.toNat_and, show (9218868437227405312 : UInt64).toNat = 9218868437227405312 from rfl, and_exp]; omega
end Go.Lg
namespace Go.Lg
structure api_Pair where
  Key : List UInt8
  Val : List UInt8
  deriving DecidableEq
structure api_Point where
  Name : List UInt8
  Attrs : List api_Pair
  Kind : Int
  Temp : Int
  Mono : Bool
  Start : Int
  Time : Int
  Int_ : Int
  Re : UInt64
  Im : UInt64
  Hist : api_Hist
  Flags : Int
  deriving DecidableEq
structure api_State where
  Some : Bool
  Start : Int
  Time : Int
  Int_ : Int
  Re : UInt64
  Im : UInt64
  Hist : api_Hist
  deriving DecidableEq
structure todelta_value where
  i : Int
  re : UInt64
  im : UInt64
  h : api_Hist
  deriving DecidableEq
structure ref15_Step where
  S : api_State
  P : api_Point
  E : Int
  deriving DecidableEq
noncomputable def label_small (a0 : UInt8) : Option Bool :=
 lett (((decide (97 ≤ a0)) && (decide (a0 ≤ 122)))) fun t12 =>
 some t12
noncomputable def label_isName_lp1 (a0 : List UInt8) : Int → Option (Rnd Int Unit Bool) := fun x36 =>
 bif decide (x36 < (a0.length : Int)) then
 (idx a0 x36).bind fun e50 =>
 (label_small e50).bind fun r63 =>
 bif ((((!r63) && ((decide (e50 < 48)) || (decide (57 < e50)))) && (!decide (e50 = 95))) && (!decide (e50 = 46))) then
 outr (some false)
 else
 some (.next (w64 (x36 + 1)))
 else
 some (.brk ())
noncomputable def label_isName (a0 : List UInt8) : Option Bool :=
 (bif ((decide (a0 = [])) || (decide (32 < (a0.length : Int)))) then
 some true
 else
 (idx a0 0).bind fun c19 =>
 (label_small c19).bind fun r20 =>
 some (!r20) : Option Bool).bind fun x12 =>
 bif x12 then
 some false
 else
 flow (loop (label_isName_lp1 a0) 0) fun (_ : Unit) =>
 some true
noncomputable def label_isValue_lp1 (a0 : List UInt8) : Int → Option (Rnd Int Unit Bool) := fun x19 =>
 bif decide (x19 < (a0.length : Int)) then
 (idx a0 x19).bind fun e27 =>
 flow ((lett (decide (e27 < 33)) fun t44 =>
 bif t44 then
 some t44
 else
 lett (decide (126 < e27)) fun t46 =>
 bif t46 then
 some t46
 else
 lett (decide (e27 = 61)) fun t48 =>
 bif t48 then
 some t48
 else
 lett (decide (e27 = 59)) fun t50 =>
 bif t50 then
 some t50
 else
 lett (decide (e27 = 44)) fun t52 =>
 some t52 : Option Bool).bind fun x41 =>
 bif x41 then
 outs (outr (some false))
 else
 some (.go ())) fun (_ : Unit) =>
 some (.next (w64 (x19 + 1)))
 else
 some (.brk ())
noncomputable def label_isValue (a0 : List UInt8) : Option Bool :=
 bif ((decide (a0 = [])) || (decide (32 < (a0.length : Int)))) then
 some false
 else
 flow (loop (label_isValue_lp1 a0) 0) fun (_ : Unit) =>
 some true
noncomputable def label_Check_lp2 (e40 : api_Pair) (t89 : List api_Pair) : Int → Option (Rnd Int Unit Int) := fun x109 =>
 bif decide (x109 < (t89.length : Int)) then
 (idx t89 x109).bind fun e123 =>
 (lett (decide (e123.Key = e40.Key)) fun t151 =>
 some t151 : Option Bool).bind fun x136 =>
 bif x136 then
 outr (some x109)
 else
 some (.next (w64 (x109 + 1)))
 else
 some (.brk ())
noncomputable def label_Check_lp1 (a1 : List api_Pair) : Int → Option (Rnd Int Unit Int) := fun x26 =>
 bif decide (x26 < (a1.length : Int)) then
 (idx a1 x26).bind fun e40 =>
 (label_isName e40.Key).bind fun r61 =>
 (bif (!r61) then
 some true
 else
 (label_isValue e40.Val).bind fun r78 =>
 some (!r78) : Option Bool).bind fun x70 =>
 bif x70 then
 outr (some 3)
 else
 (slc a1 0 x26).bind fun t89 =>
 ((flow (loop (label_Check_lp2 e40 t89) 0) fun (_ : Unit) =>
 some (-1) : Option Int).bind fun x103 =>
 lett (decide (0 ≤ x103)) fun t153 =>
 some t153 : Option Bool).bind fun x97 =>
 bif x97 then
 outr (some 8)
 else
 some (.next (w64 (x26 + 1)))
 else
 some (.brk ())
noncomputable def label_Check (a0 : List UInt8) (a1 : List api_Pair) : Option Int :=
 (label_isName a0).bind fun r12 =>
 bif (!r12) then
 some 3
 else
 bif decide (4 < (a1.length : Int)) then
 some 4
 else
 flow (loop (label_Check_lp1 a1) 0) fun (_ : Unit) =>
 some 0
noncomputable def point_kinds (a0 : api_Point) : Option Bool :=
 lett (decide (a0.Kind = 3)) fun t31 =>
 bif t31 then
 lett (decide (a0.Temp = 0)) fun t33 =>
 some t33
 else
 (lett (decide (a0.Kind = 1)) fun t38 =>
 bif t38 then
 some t38
 else
 lett (decide (a0.Kind = 2)) fun t40 =>
 bif t40 then
 some t40
 else
 lett (decide (a0.Kind = 4)) fun t42 =>
 bif t42 then
 some t42
 else
 lett (decide (a0.Kind = 5)) fun t44 =>
 some t44 : Option Bool).bind fun x35 =>
 bif x35 then
 lett (((decide (a0.Temp = 1)) || (decide (a0.Temp = 2)))) fun t47 =>
 some t47
 else
 some false
noncomputable def point_sum (a0 : api_Point) : Option Bool :=
 lett (((decide (a0.Kind = 1)) || (decide (a0.Kind = 2)))) fun t32 =>
 some t32
noncomputable def point_times (a0 : api_Point) : Option Bool :=
 bif ((decide (a0.Start < 0)) || (decide (4503599627370496 < a0.Time))) then
 some false
 else
 bif decide (a0.Kind = 3) then
 lett (decide (a0.Start = a0.Time)) fun t35 =>
 some t35
 else
 lett (decide (a0.Start < a0.Time)) fun t37 =>
 some t37
noncomputable def point_bare (a0 : api_Hist) : Option Bool :=
 lett ((((((decide (a0.Scale = 0)) && (decide (a0.Zero = 0))) && (decide (a0.Pos.Offset = 0))) && (decide (a0.Neg.Offset = 0))) && (decide (w64 ((a0.Pos.Counts.length : Int) + (a0.Neg.Counts.length : Int)) = 0)))) fun t32 =>
 some t32
noncomputable def point_own (a0 : api_Point) : Option Bool :=
 lett ((((decide (a0.Kind = 2)) || (decide (a0.Kind = 3))) || (decide (a0.Kind = 5)))) fun float33 =>
 lett (((!decide (a0.Kind = 1)) && (!decide (a0.Int_ = 0)))) fun t35 =>
 bif t35 then
 bif t35 then
 some false
 else
 some true
 else
 lett (((!float33) && (!decide (a0.Re = 0)))) fun t41 =>
 bif t41 then
 bif t41 then
 some false
 else
 some true
 else
 lett (((!decide (a0.Kind = 5)) && (!decide (a0.Im = 0)))) fun t47 =>
 bif t47 then
 bif t47 then
 some false
 else
 some true
 else
 (bif (!decide (a0.Kind = 4)) then
 (point_bare a0.Hist).bind fun r61 =>
 some (!r61)
 else
 some false : Option Bool).bind fun x52 =>
 bif x52 then
 bif x52 then
 some false
 else
 some true
 else
 lett (((decide (a0.Flags < 0)) || (decide (31 < a0.Flags)))) fun t76 =>
 bif t76 then
 some false
 else
 some true
noncomputable def point_Check (a0 : api_Point) : Option Int :=
 (label_Check a0.Name a0.Attrs).bind fun r32 =>
 bif (!decide (r32 = 0)) then
 some r32
 else
 (point_kinds a0).bind fun r49 =>
 lett ((!r49)) fun t58 =>
 bif t58 then
 some 14
 else
 ((bif a0.Mono then
 (point_sum a0).bind fun r78 =>
 some (!r78)
 else
 some false : Option Bool).bind fun x68 =>
 bif x68 then
 some x68
 else
 (point_times a0).bind fun r95 =>
 lett ((!r95)) fun t104 =>
 some t104 : Option Bool).bind fun x61 =>
 bif x61 then
 some 1
 else
 (point_own a0).bind fun r115 =>
 lett ((!r115)) fun t124 =>
 bif t124 then
 some 3
 else
 (bif (a0.Mono && (decide (a0.Kind = 2))) then
 (num_Finite a0.Re).bind fun r136 =>
 some (!r136)
 else
 some false : Option Bool).bind fun x129 =>
 bif x129 then
 some 11
 else
 (bif a0.Mono then
 (bif decide (a0.Int_ < 0) then
 some true
 else
 (num_Less a0.Re (0 : UInt64)).bind fun r162 =>
 some r162 : Option Bool).bind fun x155 =>
 some x155
 else
 some false : Option Bool).bind fun x148 =>
 bif x148 then
 some 1
 else
 lett (decide (a0.Kind = 4)) fun t174 =>
 bif t174 then
 (hist_Check a0.Hist).bind fun r182 =>
 some r182
 else
 some 0
noncomputable def todelta_check (a0 : api_State) (a1 : api_Point) : Option Int :=
 lett ((!a0.Some)) fun t50 =>
 bif t50 then
 some 0
 else
 lett (decide (a1.Time ≤ a0.Time)) fun t53 =>
 bif t53 then
 some 9
 else
 lett (decide (a1.Start < a0.Start)) fun t56 =>
 bif t56 then
 bif t56 then
 some 10
 else
 some 0
 else
 lett (((decide (a0.Start < a1.Start)) && (decide (a1.Start < a0.Time)))) fun t62 =>
 bif t62 then
 some 10
 else
 some 0
def slices_Clone_api_Pair_api_Pair (a0 : List api_Pair) : Option (List api_Pair) := app [] a0
noncomputable def point_Clone (a0 : api_Point) : Option api_Point :=
 (slices_Clone_api_Pair_api_Pair a0.Attrs).bind fun r39 =>
 (hist_Clone a0.Hist).bind fun r67 =>
 some (api_Point.mk a0.Name r39 a0.Kind a0.Temp a0.Mono a0.Start a0.Time a0.Int_ a0.Re a0.Im r67 a0.Flags)
noncomputable def todelta_begins (a0 : api_State) (a1 : api_Point) : Option Int :=
 lett ((!a0.Some)) fun t50 =>
 bif t50 then
 some 1
 else
 lett (decide (a1.Start ≤ a0.Start)) fun t53 =>
 bif t53 then
 some 0
 else
 lett (decide (a0.Time < a1.Start)) fun t56 =>
 bif t56 then
 some 10
 else
 some 2
noncomputable def todelta_finite_lp1 (a0 : List UInt64) : Int → Option (Rnd Int Unit Bool) := fun x12 =>
 bif decide (x12 < (a0.length : Int)) then
 (idx a0 x12).bind fun e26 =>
 (num_Finite e26).bind fun r39 =>
 bif (!r39) then
 outr (some false)
 else
 some (.next (w64 (x12 + 1)))
 else
 some (.brk ())
noncomputable def todelta_finite (a0 : List UInt64) : Option Bool :=
 flow (loop (todelta_finite_lp1 a0) 0) fun (_ : Unit) =>
 some true
noncomputable def todelta_less (a0 : api_Point) (a1 : todelta_value) : Option (todelta_value × Int) :=
 lett (decide (a0.Kind = 1)) fun t55 =>
 bif t55 then
 lett (w64 (a0.Int_ - a1.i)) fun d58 =>
 bif (a0.Mono && (decide (a0.Int_ < a1.i))) then
 some ((todelta_value.mk 0 0 0 (api_Hist.mk 0 0 (api_Side.mk 0 []) (api_Side.mk 0 []))), 4)
 else
 bif (!decide (decide (d58 < a0.Int_) = decide (0 < a1.i))) then
 some ((todelta_value.mk 0 0 0 (api_Hist.mk 0 0 (api_Side.mk 0 []) (api_Side.mk 0 []))), 16)
 else
 some ((todelta_value.mk d58 0 0 (api_Hist.mk 0 0 (api_Side.mk 0 []) (api_Side.mk 0 []))), 0)
 else
 lett (decide (a0.Kind = 2)) fun t74 =>
 bif t74 then
 (num_Sub a0.Re a1.re).bind fun r77 =>
 (bif a0.Mono then
 (num_Less a0.Re a1.re).bind fun r95 =>
 some r95
 else
 some false : Option Bool).bind fun x87 =>
 bif x87 then
 some ((todelta_value.mk 0 0 0 (api_Hist.mk 0 0 (api_Side.mk 0 []) (api_Side.mk 0 []))), 4)
 else
 (todelta_finite [r77]).bind fun r116 =>
 (bif (!r116) then
 (todelta_finite [a0.Re, a1.re]).bind fun r144 =>
 some r144
 else
 some false : Option Bool).bind fun x125 =>
 bif x125 then
 some ((todelta_value.mk 0 0 0 (api_Hist.mk 0 0 (api_Side.mk 0 []) (api_Side.mk 0 []))), 16)
 else
 some ((todelta_value.mk 0 r77 0 (api_Hist.mk 0 0 (api_Side.mk 0 []) (api_Side.mk 0 []))), 0)
 else
 lett (decide (a0.Kind = 5)) fun t172 =>
 bif t172 then
 (num_SubPhasor a0.Re a0.Im a1.re a1.im).bind fun (r175, r176) =>
 (todelta_finite [r175, r176]).bind fun r190 =>
 (bif (!r190) then
 (todelta_finite [a0.Re, a0.Im, a1.re, a1.im]).bind fun r217 =>
 some r217
 else
 some false : Option Bool).bind fun x199 =>
 bif x199 then
 some ((todelta_value.mk 0 0 0 (api_Hist.mk 0 0 (api_Side.mk 0 []) (api_Side.mk 0 []))), 16)
 else
 some ((todelta_value.mk 0 r175 r176 (api_Hist.mk 0 0 (api_Side.mk 0 []) (api_Side.mk 0 []))), 0)
 else
 (fold_Sub a0.Hist a1.h).bind fun (r254, r255) =>
 bif (!decide (r255 = 0)) then
 some ((todelta_value.mk 0 0 0 (api_Hist.mk 0 0 (api_Side.mk 0 []) (api_Side.mk 0 []))), 4)
 else
 some ((todelta_value.mk 0 0 0 r254), 0)
noncomputable def todelta_Next (a0 : api_State) (a1 : api_Point) (a2 : Int) : Option (api_State × api_Point × Int) :=
 (point_Check a1).bind fun r70 =>
 (lett ((!decide (r70 = 0))) fun t96 =>
 bif t96 then
 some (a1.Hist.Scale, a1.Hist.Zero, a1.Hist.Pos.Offset, a1.Hist.Pos.Counts, a1.Hist.Neg.Offset, a1.Hist.Neg.Counts, r70)
 else
 lett ((!decide (a1.Temp = 1))) fun t102 =>
 bif t102 then
 some (a1.Hist.Scale, a1.Hist.Zero, a1.Hist.Pos.Offset, a1.Hist.Pos.Counts, a1.Hist.Neg.Offset, a1.Hist.Neg.Counts, 14)
 else
 lett ((!decide (a1.Flags = 0))) fun t106 =>
 bif t106 then
 some (a1.Hist.Scale, a1.Hist.Zero, a1.Hist.Pos.Offset, a1.Hist.Pos.Counts, a1.Hist.Neg.Offset, a1.Hist.Neg.Counts, 3)
 else
 lett (decide (a1.Kind = 4)) fun t110 =>
 bif t110 then
 (hist_Fit a1.Hist a2).bind fun (r114, r115) =>
 some (r114.Scale, r114.Zero, r114.Pos.Offset, r114.Pos.Counts, r114.Neg.Offset, r114.Neg.Counts, r115)
 else
 some (a1.Hist.Scale, a1.Hist.Zero, a1.Hist.Pos.Offset, a1.Hist.Pos.Counts, a1.Hist.Neg.Offset, a1.Hist.Neg.Counts, r70) : Option (Int × UInt64 × Int × List UInt64 × Int × List UInt64 × Int)).bind fun (c80, c81, c82, c83, c86, c87, e90) =>
 (bif decide (e90 = 0) then
 (todelta_check a0 (api_Point.mk a1.Name a1.Attrs a1.Kind a1.Temp a1.Mono a1.Start a1.Time a1.Int_ a1.Re a1.Im (api_Hist.mk c80 c81 (api_Side.mk c82 c83) (api_Side.mk c86 c87)) a1.Flags)).bind fun r172 =>
 some r172
 else
 some e90 : Option Int).bind fun e146 =>
 bif (!decide (e146 = 0)) then
 some ((api_State.mk false 0 0 0 0 0 (api_Hist.mk 0 0 (api_Side.mk 0 []) (api_Side.mk 0 []))), (api_Point.mk [] [] 0 0 false 0 0 0 0 0 (api_Hist.mk 0 0 (api_Side.mk 0 []) (api_Side.mk 0 [])) 0), e146)
 else
 (point_Clone (api_Point.mk a1.Name a1.Attrs a1.Kind a1.Temp a1.Mono a1.Start a1.Time a1.Int_ a1.Re a1.Im (api_Hist.mk c80 c81 (api_Side.mk c82 c83) (api_Side.mk c86 c87)) a1.Flags)).bind fun r204 =>
 ((hist_Clone (api_Hist.mk c80 c81 (api_Side.mk c82 c83) (api_Side.mk c86 c87))).bind fun r350 =>
 some (r350.Scale, r350.Zero, r350.Pos.Offset, r350.Pos.Counts, r350.Neg.Offset, r350.Neg.Counts)).bind fun (x324, x325, x326, x327, x330, x331) =>
 (todelta_begins a0 (api_Point.mk a1.Name a1.Attrs a1.Kind a1.Temp a1.Mono a1.Start a1.Time a1.Int_ a1.Re a1.Im (api_Hist.mk c80 c81 (api_Side.mk c82 c83) (api_Side.mk c86 c87)) a1.Flags)).bind fun r517 =>
 bif (!decide (r517 = 0)) then
 some ((api_State.mk true a1.Start a1.Time a1.Int_ a1.Re a1.Im (api_Hist.mk x324 x325 (api_Side.mk x326 x327) (api_Side.mk x330 x331))), (api_Point.mk r204.Name r204.Attrs r204.Kind 2 r204.Mono r204.Start r204.Time r204.Int_ r204.Re r204.Im r204.Hist r517), 0)
 else
 (todelta_less (api_Point.mk a1.Name a1.Attrs a1.Kind a1.Temp a1.Mono a1.Start a1.Time a1.Int_ a1.Re a1.Im (api_Hist.mk c80 c81 (api_Side.mk c82 c83) (api_Side.mk c86 c87)) a1.Flags) (todelta_value.mk a0.Int_ a0.Re a0.Im a0.Hist)).bind fun (r643, r644) =>
 (bif decide (r644 = 0) then
 bif decide (a1.Kind = 4) then
 (fold_Level (api_Hist.mk c80 c81 (api_Side.mk c82 c83) (api_Side.mk c86 c87)) a0.Hist).bind fun (r845, r846, r847) =>
 some (r643.i, r643.re, r643.im, r643.h.Scale, r643.h.Zero, r643.h.Pos.Offset, r643.h.Pos.Counts, r643.h.Neg.Offset, r643.h.Neg.Counts, r845.Scale, r845.Zero, r845.Pos.Offset, r845.Pos.Counts, r845.Neg.Offset, r845.Neg.Counts)
 else
 some (r643.i, r643.re, r643.im, r643.h.Scale, r643.h.Zero, r643.h.Pos.Offset, r643.h.Pos.Counts, r643.h.Neg.Offset, r643.h.Neg.Counts, x324, x325, x326, x327, x330, x331)
 else
 some (r204.Int_, r204.Re, r204.Im, r204.Hist.Scale, r204.Hist.Zero, r204.Hist.Pos.Offset, r204.Hist.Pos.Counts, r204.Hist.Neg.Offset, r204.Hist.Neg.Counts, x324, x325, x326, x327, x330, x331) : Option (Int × UInt64 × UInt64 × Int × UInt64 × Int × List UInt64 × Int × List UInt64 × Int × UInt64 × Int × List UInt64 × Int × List UInt64)).bind fun (c690, c691, c692, c693, c694, c695, c696, c699, c700, c704, c705, c706, c707, c710, c711) =>
 some ((api_State.mk true a1.Start a1.Time a1.Int_ a1.Re a1.Im (api_Hist.mk c704 c705 (api_Side.mk c706 c707) (api_Side.mk c710 c711))), (api_Point.mk r204.Name r204.Attrs r204.Kind 2 r204.Mono a0.Time r204.Time c690 c691 c692 (api_Hist.mk c693 c694 (api_Side.mk c695 c696) (api_Side.mk c699 c700)) r644), 0)
noncomputable def ref11_Light_lp1 (a0 : List api_Pair) : Int → Option (Rnd Int Unit Bool) := fun i14 =>
 bif decide (i14 < (a0.length : Int)) then
 (idx a0 i14).bind fun e22 =>
 (bif decide (100 < (e22.Key.length : Int)) then
 some true
 else
 (idx a0 i14).bind fun e38 =>
 some (decide (100 < (e38.Val.length : Int))) : Option Bool).bind fun x34 =>
 bif x34 then
 outr (some false)
 else
 lett (w64 (i14 + 1)) fun i52 =>
 some (.next i52)
 else
 some (.brk ())
noncomputable def ref11_Light (a0 : List api_Pair) : Option Bool :=
 bif decide (20 < (a0.length : Int)) then
 some false
 else
 flow (loop (ref11_Light_lp1 a0) 0) fun (_ : Unit) =>
 some true
noncomputable def ref12_Light (a0 : api_Point) : Option Bool :=
 (bif decide ((a0.Name.length : Int) ≤ 100) then
 (ref11_Light a0.Attrs).bind fun r39 =>
 some r39
 else
 some false : Option Bool).bind fun x31 =>
 (bif x31 then
 (ref08_Light a0.Hist).bind fun r60 =>
 some r60
 else
 some false : Option Bool).bind fun x48 =>
 some x48
noncomputable def ref12_Some_lp1 (a0 : List api_Point) : Int → Option (Rnd Int Unit Bool) := fun i14 =>
 bif decide (i14 < (a0.length : Int)) then
 (idx a0 i14).bind fun e29 =>
 (ref12_Light e29).bind fun r47 =>
 bif (!r47) then
 outr (some false)
 else
 lett (w64 (i14 + 1)) fun i58 =>
 some (.next i58)
 else
 some (.brk ())
noncomputable def ref12_Some (a0 : List api_Point) (a1 : Int) : Option Bool :=
 bif decide (a1 < (a0.length : Int)) then
 some false
 else
 flow (loop (ref12_Some_lp1 a0) 0) fun (_ : Unit) =>
 some true
noncomputable def ref15_Wide (a0 : Int) (a1 : Int) (a2 : Bool) : Option Bool :=
 lett (w64 (a0.tdiv 2)) fun hv11 =>
 lett (a0.tmod 2) fun r12 =>
 lett (w64 (a1.tdiv 2)) fun k13 =>
 lett (a1.tmod 2) fun q14 =>
 (bif a2 then
 lett (w64 (0 - k13)) fun k20 =>
 lett (w64 (0 - q14)) fun q21 =>
 some (k20, q21)
 else
 some (k13, q14) : Option (Int × Int)).bind fun (k15, q16) =>
 lett (w64 (hv11 + k15)) fun half22 =>
 lett (w64 (r12 + q16)) fun rest23 =>
 (bif decide (1 < rest23) then
 lett (w64 (half22 + 1)) fun half29 =>
 lett (w64 (rest23 - 2)) fun rest30 =>
 some (half29, rest30)
 else
 some (half22, rest23) : Option (Int × Int)).bind fun (half24, rest25) =>
 (bif decide (rest25 < (-1)) then
 lett (w64 (half24 - 1)) fun half36 =>
 lett (w64 (rest25 + 2)) fun rest37 =>
 some (half36, rest37)
 else
 some (half24, rest25) : Option (Int × Int)).bind fun (half31, rest32) =>
 bif ((decide (4611686018427387904 < half31)) || (decide (half31 < (-4611686018427387904)))) then
 some true
 else
 bif decide (half31 = 4611686018427387904) then
 lett (decide (0 ≤ rest32)) fun t42 =>
 some t42
 else
 lett (((decide (half31 = (-4611686018427387904))) && (decide (rest32 < 0)))) fun t45 =>
 some t45
noncomputable def tocum_Together_lp1 (a2 : Int) : (Int × UInt64 × Int × List UInt64 × Int × List UInt64 × Int × UInt64 × Int × List UInt64 × Int × List UInt64) → Option (Rnd (Int × UInt64 × Int × List UInt64 × Int × List UInt64 × Int × UInt64 × Int × List UInt64 × Int × List UInt64) Unit (api_Hist × Bool)) := fun (c139, c140, c141, c142, c145, c146, c150, c151, c152, c153, c156, c157) =>
 (fold_Merge (api_Hist.mk c139 c140 (api_Side.mk c141 c142) (api_Side.mk c145 c146)) (api_Hist.mk c150 c151 (api_Side.mk c152 c153) (api_Side.mk c156 c157))).bind fun (r176, r177) =>
 lett (decide (r177 = 4)) fun t210 =>
 bif t210 then
 outr (some ((api_Hist.mk 0 0 (api_Side.mk 0 []) (api_Side.mk 0 [])), false))
 else
 lett (((decide (r177 = 0)) && (decide ((max (r176.Pos.Counts.length : Int) (r176.Neg.Counts.length : Int)) ≤ a2)))) fun t228 =>
 bif t228 then
 outr (some (r176, true))
 else
 lett (decide (c139 = (-10))) fun t250 =>
 bif t250 then
 outr (some ((api_Hist.mk 0 0 (api_Side.mk 0 []) (api_Side.mk 0 [])), false))
 else
 (hist_Down (api_Hist.mk c139 c140 (api_Side.mk c141 c142) (api_Side.mk c145 c146)) 1).bind fun (r271, r272) =>
 (hist_Down (api_Hist.mk c150 c151 (api_Side.mk c152 c153) (api_Side.mk c156 c157)) 1).bind fun (r314, r315) =>
 some (.next (r271.Scale, r271.Zero, r271.Pos.Offset, r271.Pos.Counts, r271.Neg.Offset, r271.Neg.Counts, r314.Scale, r314.Zero, r314.Pos.Offset, r314.Pos.Counts, r314.Neg.Offset, r314.Neg.Counts))
noncomputable def tocum_Together (a0 : api_Hist) (a1 : api_Hist) (a2 : Int) : Option (api_Hist × Bool) :=
 (fold_Level a0 a1).bind fun (r61, r62, r63) =>
 bif (!decide (r63 = 0)) then
 some ((api_Hist.mk 0 0 (api_Side.mk 0 []) (api_Side.mk 0 [])), false)
 else
 flow (loop (tocum_Together_lp1 a2) (r61.Scale, r61.Zero, r61.Pos.Offset, r61.Pos.Counts, r61.Neg.Offset, r61.Neg.Counts, r62.Scale, r62.Zero, r62.Pos.Offset, r62.Pos.Counts, r62.Neg.Offset, r62.Neg.Counts)) fun (_ : Unit) => none
noncomputable def ref11_Name_lp1 (a0 : List UInt8) : Int → Option (Rnd Int Unit Bool) := fun i14 =>
 bif decide (i14 < (a0.length : Int)) then
 (idx a0 i14).bind fun c22 =>
 lett (((decide (97 ≤ c22)) && (decide (c22 ≤ 122)))) fun letter24 =>
 lett (((((decide (48 ≤ c22)) && (decide (c22 ≤ 57))) || (decide (c22 = 95))) || (decide (c22 = 46)))) fun other28 =>
 bif ((!letter24) && ((decide (i14 = 0)) || (!other28))) then
 outr (some false)
 else
 lett (w64 (i14 + 1)) fun i33 =>
 some (.next i33)
 else
 some (.brk ())
noncomputable def ref11_Name (a0 : List UInt8) : Option Bool :=
 bif ((decide ((a0.length : Int) < 1)) || (decide (32 < (a0.length : Int)))) then
 some false
 else
 flow (loop (ref11_Name_lp1 a0) 0) fun (_ : Unit) =>
 some true
noncomputable def ref11_Value_lp1 (a0 : List UInt8) : Int → Option (Rnd Int Unit Bool) := fun i14 =>
 bif decide (i14 < (a0.length : Int)) then
 (idx a0 i14).bind fun c22 =>
 bif (((((decide (c22 ≤ 32)) || (decide (127 ≤ c22))) || (decide (c22 = 61))) || (decide (c22 = 59))) || (decide (c22 = 44))) then
 outr (some false)
 else
 lett (w64 (i14 + 1)) fun i29 =>
 some (.next i29)
 else
 some (.brk ())
noncomputable def ref11_Value (a0 : List UInt8) : Option Bool :=
 bif ((decide ((a0.length : Int) < 1)) || (decide (32 < (a0.length : Int)))) then
 some false
 else
 flow (loop (ref11_Value_lp1 a0) 0) fun (_ : Unit) =>
 some true
noncomputable def ref11_Check_lp2 (a1 : List api_Pair) (i26 : Int) : Int → Option (Rnd Int Unit (Flow Unit (Rnd Int Unit Int))) := fun k98 =>
 bif decide (k98 < i26) then
 (idx a1 k98).bind fun e114 =>
 (idx a1 i26).bind fun e130 =>
 bif decide (e114.Key = e130.Key) then
 outr (outs (outr (some 8)))
 else
 lett (w64 (k98 + 1)) fun k144 =>
 some (.next k144)
 else
 some (.brk ())
noncomputable def ref11_Check_lp1 (a1 : List api_Pair) : Int → Option (Rnd Int Unit Int) := fun i26 =>
 bif decide (i26 < (a1.length : Int)) then
 (idx a1 i26).bind fun e41 =>
 (ref11_Name e41.Key).bind fun r53 =>
 (bif (!r53) then
 some true
 else
 (idx a1 i26).bind fun e69 =>
 (ref11_Value e69.Val).bind fun r82 =>
 some (!r82) : Option Bool).bind fun x62 =>
 bif x62 then
 outr (some 3)
 else
 flow (flow (loop (ref11_Check_lp2 a1 i26) 0) fun (_ : Unit) =>
 some (.go ())) fun (_ : Unit) =>
 lett (w64 (i26 + 1)) fun i145 =>
 some (.next i145)
 else
 some (.brk ())
noncomputable def ref11_Check (a0 : List UInt8) (a1 : List api_Pair) : Option Int :=
 (ref11_Name a0).bind fun r12 =>
 bif (!r12) then
 some 3
 else
 bif decide (4 < (a1.length : Int)) then
 some 4
 else
 flow (loop (ref11_Check_lp1 a1) 0) fun (_ : Unit) =>
 some 0
noncomputable def ref12_none (a0 : api_Hist) : Option Bool :=
 (ref08_Same a0 (api_Hist.mk 0 0 (api_Side.mk 0 []) (api_Side.mk 0 []))).bind fun r28 =>
 some r28
noncomputable def ref12_Check (a0 : api_Point) : Option Int :=
 (ref11_Check a0.Name a0.Attrs).bind fun r32 =>
 bif (!decide (r32 = 0)) then
 some r32
 else
 bif ((decide (a0.Kind < 1)) || (decide (5 < a0.Kind))) then
 some 14
 else
 bif (((decide (a0.Kind = 3)) && (!decide (a0.Temp = 0))) || (((!decide (a0.Kind = 3)) && (!decide (a0.Temp = 1))) && (!decide (a0.Temp = 2)))) then
 some 14
 else
 bif ((a0.Mono && (!decide (a0.Kind = 1))) && (!decide (a0.Kind = 2))) then
 some 1
 else
 bif ((((decide (a0.Start < 0)) || (decide (4503599627370496 < a0.Time))) || ((decide (a0.Kind = 3)) && (!decide (a0.Start = a0.Time)))) || ((!decide (a0.Kind = 3)) && (decide (a0.Time ≤ a0.Start)))) then
 some 1
 else
 (bif (((!decide (a0.Kind = 1)) && (!decide (a0.Int_ = 0))) || ((!decide (a0.Kind = 5)) && (!decide (a0.Im = 0)))) then
 some true
 else
 (bif (!decide (a0.Kind = 4)) then
 (ref12_none a0.Hist).bind fun r85 =>
 some (!r85)
 else
 some false : Option Bool).bind fun x74 =>
 some x74 : Option Bool).bind fun x67 =>
 bif x67 then
 some 3
 else
 bif (((((decide (a0.Kind = 1)) || (decide (a0.Kind = 4))) && (!decide (a0.Re = 0))) || (decide (a0.Flags < 0))) || (decide (31 < a0.Flags))) then
 some 3
 else
 (bif (a0.Mono && (decide (a0.Kind = 2))) then
 (ref05_Finite a0.Re).bind fun r111 =>
 some (!r111)
 else
 some false : Option Bool).bind fun x104 =>
 bif x104 then
 some 11
 else
 (bif (a0.Mono && (decide (a0.Kind = 2))) then
 (ref05_Less a0.Re (0 : UInt64)).bind fun r131 =>
 some r131
 else
 some false : Option Bool).bind fun x124 =>
 bif (x124 || ((a0.Mono && (decide (a0.Kind = 1))) && (decide (a0.Int_ < 0)))) then
 some 1
 else
 bif decide (a0.Kind = 4) then
 (ref08_Check a0.Hist).bind fun r158 =>
 some r158
 else
 some 0
noncomputable def ref16_Together_lp1 (a2 : Int) (r61 : ref09_Pair) : Int → Option (Rnd Int Unit (api_Hist × Bool)) := fun s118 =>
 bif decide ((-10) ≤ s118) then
 (ref08_Down r61.X (w64 (r61.X.Scale - s118))).bind fun (r137, r138) =>
 (ref08_Down r61.Y (w64 (r61.X.Scale - s118))).bind fun (r184, r185) =>
 (ref09_Merge r137 r184).bind fun (r231, r232) =>
 bif decide (r232 = 4) then
 outr (some ((api_Hist.mk 0 0 (api_Side.mk 0 []) (api_Side.mk 0 [])), false))
 else
 bif (((decide (r232 = 0)) && (decide ((r231.Pos.Counts.length : Int) ≤ a2))) && (decide ((r231.Neg.Counts.length : Int) ≤ a2))) then
 outr (some (r231, true))
 else
 lett (w64 (s118 - 1)) fun s309 =>
 some (.next s309)
 else
 some (.brk ())
noncomputable def ref16_Together (a0 : api_Hist) (a1 : api_Hist) (a2 : Int) : Option (api_Hist × Bool) :=
 (ref09_Level a0 a1).bind fun r61 =>
 bif (!decide (r61.E = 0)) then
 some ((api_Hist.mk 0 0 (api_Side.mk 0 []) (api_Side.mk 0 [])), false)
 else
 flow (loop (ref16_Together_lp1 a2 r61) r61.X.Scale) fun (_ : Unit) =>
 some ((api_Hist.mk 0 0 (api_Side.mk 0 []) (api_Side.mk 0 [])), false)
noncomputable def ref11_Same_lp1 (a0 : List api_Pair) (a1 : List api_Pair) : Int → Option (Rnd Int Unit Bool) := fun i15 =>
 bif decide (i15 < (a0.length : Int)) then
 (idx a0 i15).bind fun e32 =>
 (idx a1 i15).bind fun e45 =>
 bif (!(decide (e32.Key = e45.Key) && (decide (e32.Val = e45.Val) && true))) then
 outr (some false)
 else
 lett (w64 (i15 + 1)) fun i61 =>
 some (.next i61)
 else
 some (.brk ())
noncomputable def ref11_Same (a0 : List api_Pair) (a1 : List api_Pair) : Option Bool :=
 bif (!decide ((a0.length : Int) = (a1.length : Int))) then
 some false
 else
 flow (loop (ref11_Same_lp1 a0 a1) 0) fun (_ : Unit) =>
 some true
noncomputable def ref11_Sorted_lp2 (a0 : List api_Pair) (out12 : List api_Pair) (i15 : Int) : Int → Option (Rnd Int Int Int) := fun k40 =>
 (bif decide (0 < k40) then
 (idx out12 (w64 (k40 - 1))).bind fun e79 =>
 (idx a0 i15).bind fun e107 =>
 some (sLess e107.Key e79.Key)
 else
 some false).bind fun x65 =>
 bif x65 then
 lett (w64 (k40 - 1)) fun k141 =>
 some (.next k141)
 else
 some (.brk k40)
noncomputable def ref11_Sorted_lp1 (a0 : List api_Pair) : (List api_Pair × Int) → Option (Rnd (List api_Pair × Int) (List api_Pair) (List api_Pair)) := fun (out12, i15) =>
 bif decide (i15 < (a0.length : Int)) then
 lett ((out12.length : Int)) fun k33 =>
 (flow (loop (ref11_Sorted_lp2 a0 out12 i15) k33) fun k44 =>
 some k44 : Option Int).bind fun k34 =>
 (slc out12 0 k34).bind fun t142 =>
 (app [] t142).bind fun xs146 =>
 (idx a0 i15).bind fun e153 =>
 (app xs146 [e153]).bind fun xs172 =>
 (slc out12 k34 (out12.length : Int)).bind fun t179 =>
 (app xs172 t179).bind fun xs189 =>
 lett (w64 (i15 + 1)) fun i196 =>
 some (.next (xs189, i196))
 else
 some (.brk out12)
noncomputable def ref11_Sorted (a0 : List api_Pair) : Option (List api_Pair) :=
 flow (loop (ref11_Sorted_lp1 a0) ([], 0)) fun out19 =>
 some out19
noncomputable def ref12_Same (a0 : api_Point) (a1 : api_Point) : Option Bool :=
 (bif (!decide (a0.Name = a1.Name)) then
 some true
 else
 (ref11_Sorted a0.Attrs).bind fun r110 =>
 (ref11_Sorted a1.Attrs).bind fun r125 =>
 (ref11_Same r110 r125).bind fun r138 =>
 some (!r138)).bind fun x79 =>
 bif x79 then
 some false
 else
 bif (((((!decide (a0.Kind = a1.Kind)) || (!decide (a0.Temp = a1.Temp))) || (!decide (a0.Mono = a1.Mono))) || (!decide (a0.Start = a1.Start))) || (!decide (a0.Time = a1.Time))) then
 some false
 else
 (bif ((((decide (a0.Int_ = a1.Int_)) && (decide (a0.Re = a1.Re))) && (decide (a0.Im = a1.Im))) && (decide (a0.Flags = a1.Flags))) then
 (ref08_Same a0.Hist a1.Hist).bind fun r190 =>
 some r190
 else
 some false : Option Bool).bind fun x169 =>
 some x169
def rep_api_Pair : Rep api_Pair := Rep.via (Rep.pair Rep.s Rep.s) fun d => (d.Key, d.Val)
theorem flat_api_Pair : Flat rep_api_Pair := Flat.via (Flat.pair Flat.s Flat.s) _
def rep_api_Point : Rep api_Point := Rep.via (Rep.pair Rep.s (Rep.pair (Rep.sl rep_api_Pair) (Rep.pair Rep.i (Rep.pair Rep.i (Rep.pair Rep.B (Rep.pair Rep.i (Rep.pair Rep.i (Rep.pair Rep.i (Rep.pair Rep.u (Rep.pair Rep.u (Rep.pair rep_api_Hist Rep.i))))))))))) fun d => (d.Name, d.Attrs, d.Kind, d.Temp, d.Mono, d.Start, d.Time, d.Int_, d.Re, d.Im, d.Hist, d.Flags)
end Go.Lg
namespace Go.Lg
attribute [local irreducible] w64 toU64 toU8 shlU shrU shlB shrB
/-! ### a loop that looks at one after the other -/
def firstE {ρ : Type} (e : Nat → Option ρ) : Nat → Nat → Option ρ
  | 0, _ => none
  | m + 1, i => match e i with
    | some r => some r
    | none => firstE e m (i + 1)
def rndE {ρ : Type} (i : Nat) : Option ρ → Rnd Int Unit ρ
  | some r => .out r
  | none => .next ((i + 1 : Nat) : Int)
def flowE {ρ : Type} : Option ρ → Flow Unit ρ
  | some r => .out r
  | none => .go ()
theorem scan_loop {ρ : Type} {f : Int → Option (Rnd Int Unit ρ)} {n : Nat} (e : Nat → Option ρ) (hs : ∀ i : Nat, i < n → f (i : Int) = some (rndE i (e i))) (he : f (n : Int) = some (.brk ())) : ∀ m i : Nat, i + m = n → loop f (i : Int) = some (flowE (firstE e m i))
  | 0, i, h => by
    have : i = n := by omega
    subst this
    rw [loop_brk he]; rfl
  | m + 1, i, h => by
    have h1 := hs i (by omega)
    unfold firstE
    cases hc : e i with
    | some r => rw [hc] at h1; rw [loop_out h1]; rfl
    | none => rw [hc] at h1; rw [loop_next h1]; exact scan_loop e hs he m (i + 1) (by omega)
theorem scan0 {ρ : Type} {f : Int → Option (Rnd Int Unit ρ)} {n : Nat} (e : Nat → Option ρ) (hs : ∀ i : Nat, i < n → f (i : Int) = some (rndE i (e i))) (he : f (n : Int) = some (.brk ())) : loop f 0 = some (flowE (firstE e n 0)) :=
  scan_loop e hs he n 0 (by omega)
theorem firstE_none {ρ : Type} {e : Nat → Option ρ} : ∀ m i, firstE e m i = none ↔ ∀ j, i ≤ j → j < i + m → e j = none
  | 0, i => ⟨fun _ j h1 h2 => by omega, fun _ => rfl⟩
  | m + 1, i => by
    unfold firstE
    cases hc : e i with
    | some r =>
      refine ⟨fun h => by simp at h, fun h => ?_⟩
      rw [h i (Nat.le_refl _) (by omega)] at hc; cases hc
    | none =>
      rw [show (match (none : Option ρ) with | some r => some r | none => firstE e m (i + 1)) = firstE e m (i + 1) from rfl, firstE_none m (i + 1)]
      constructor
      · intro h j h1 h2
        by_cases e1 : j = i
        · subst e1; exact hc
        · exact h j (by omega) (by omega)
      · intro h j h1 h2
        exact h j (by omega) (by omega)
theorem firstE_const {ρ : Type} {e : Nat → Option ρ} {r : ρ} (h : ∀ i, e i = none ∨ e i = some r) : ∀ m i, firstE e m i = none ∨ firstE e m i = some r
  | 0, _ => .inl rfl
  | m + 1, i => by
    unfold firstE
    rcases h i with h1 | h1
    · rw [h1]; exact firstE_const h m (i + 1)
    · rw [h1]; exact .inr rfl
def orE {ρ : Type} (o : Option ρ) (d : Option ρ) : Option ρ := match o with
  | some r => some r
  | none => d
theorem flow_E {ρ : Type} (o : Option ρ) (F : Unit → Option ρ) : flow (some (flowE o)) F = orE o (F ()) := by cases o <;> rfl
/-! ### a name, a value -/
def low (c : UInt8) : Bool := decide (97 ≤ c) && decide (c ≤ 122)
def oth (c : UInt8) : Bool := ((decide (48 ≤ c) && decide (c ≤ 57)) || decide (c = 95)) || decide (c = 46)
def bad (c : UInt8) : Bool := (((decide (c ≤ 32) || decide (127 ≤ c)) || decide (c = 61)) || decide (c = 59)) || decide (c = 44)
def nameOk (l : List UInt8) : Bool := decide (0 < l.length) && decide (l.length ≤ 32) && low (l.getD 0 0) && l.all fun c => low c || oth c
def valueOk (l : List UInt8) : Bool := decide (0 < l.length) && decide (l.length ≤ 32) && l.all fun c => !bad c
theorem all_first {α : Type} {l : List α} {p : α → Bool} {e : Nat → Option Bool} (h : ∀ i (hi : i < l.length), e i = if p l[i] then none else some false) : orE (firstE e l.length 0) (some true) = some (l.all p) := by
  by_cases ha : l.all p = true
  · have : firstE e l.length 0 = none := (firstE_none _ _).2 fun j _ hj => by
      have hj' : j < l.length := by omega
      rw [h j hj', if_pos (List.all_eq_true.1 ha _ (List.getElem_mem hj'))]
    rw [this, ha]; rfl
  · have h2 : firstE e l.length 0 ≠ none := fun hn => ha (List.all_eq_true.2 fun c hc => by
      obtain ⟨j, hj, rfl⟩ := List.getElem_of_mem hc
      have := (firstE_none _ _).1 hn j (by omega) (by omega)
      rw [h j hj] at this
      by_cases hp : p l[j] = true
      · exact hp
      · rw [if_neg hp] at this; cases this)
    have h3 : ∀ m i, i + m ≤ l.length → firstE e m i = none ∨ firstE e m i = some false := by
      intro m
      induction m with
      | zero => intro i _; exact .inl rfl
      | succ m ih =>
        intro i hi
        unfold firstE
        rw [h i (by omega)]
        by_cases hp : p (l[i]'(by omega)) = true
        · rw [if_pos hp]; exact ih (i + 1) (by omega)
        · rw [if_neg hp]; exact .inr rfl
    rcases h3 l.length 0 (by omega) with h4 | h4
    · exact absurd h4 h2
    · rw [h4]; simp at ha; simp [orE, ha]
theorem isName_eq (l : List UInt8) : label_isName l = some (nameOk l) := by
  unfold label_isName nameOk
  by_cases h : l.length = 0 ∨ 32 < l.length
  · rw [bifT (by
      rw [Bool.or_eq_true, decide_eq_true_eq, decide_eq_true_eq]
      rcases h with h | h
      · exact .inl (List.eq_nil_of_length_eq_zero h)
      · exact .inr (by omega)), bind_some, cond_true]
    rcases h with h | h
    · rw [decide_eq_false (p := 0 < l.length) (by omega)]; rfl
    · rw [decide_eq_false (p := l.length ≤ 32) (by omega), Bool.and_false]; rfl
  · have h0 : 0 < l.length := by omega
    rw [bifF (by
      rw [Bool.or_eq_false_iff, decide_eq_false_iff_not, decide_eq_false_iff_not]
      exact ⟨fun e => by rw [e] at h0; simp at h0, by omega⟩), idx_0 h0, bind_some]
    unfold label_small
    rw [lett_eq, bind_some, bind_some, decide_eq_true h0, decide_eq_true (p := l.length ≤ 32) (by omega), getD_lt h0]
    change (bif !low l[0] then _ else _) = _
    cases hl : low l[0] with
    | false => simp
    | true =>
      rw [Bool.not_true, cond_false, scan0 (n := l.length) (fun i => if (low (l.getD i 0) || oth (l.getD i 0)) = true then none else some false), flow_E, all_first (p := fun c => low c || oth c)]
      · simp
      · intro i hi; rw [getD_lt hi]
      · intro i hi
        unfold label_isName_lp1 label_small
        rw [bifTd (by omega), idx_nat hi, bind_some, lett_eq, bind_some, getD_lt hi]
        generalize l[i] = c
        have e : ((((!(decide (97 ≤ c) && decide (c ≤ 122))) && ((decide (c < 48)) || (decide (57 < c)))) && (!decide (c = 95))) && (!decide (c = 46))) = !(low c || oth c) := by
          unfold low oth
          have e1 : decide (c < 48) = !decide (48 ≤ c) := by simp [UInt8.lt_iff_toNat_lt, UInt8.le_iff_toNat_le, ← decide_not]
          have e2 : decide (57 < c) = !decide (c ≤ 57) := by simp [UInt8.lt_iff_toNat_lt, UInt8.le_iff_toNat_le, ← decide_not]
          rw [e1, e2]
          cases decide (97 ≤ c) <;> cases decide (c ≤ 122) <;> cases decide (48 ≤ c) <;> cases decide (c ≤ 57) <;> cases decide (c = 95) <;> cases decide (c = 46) <;> rfl
        rw [e]
        cases (low c || oth c)
        · rfl
        · rw [Bool.not_true, cond_false, w64_succ (by omega), if_pos rfl]; rfl
      · unfold label_isName_lp1
        rw [bifFd (by omega)]
theorem rName_eq (l : List UInt8) : ref11_Name l = some (nameOk l) := by
  unfold ref11_Name nameOk
  by_cases h : l.length = 0 ∨ 32 < l.length
  · rw [bifT (by rw [Bool.or_eq_true, decide_eq_true_eq, decide_eq_true_eq]; omega)]
    rcases h with h | h
    · rw [decide_eq_false (p := 0 < l.length) (by omega)]; rfl
    · rw [decide_eq_false (p := l.length ≤ 32) (by omega), Bool.and_false]; rfl
  · have h0 : 0 < l.length := by omega
    rw [bifF (by rw [Bool.or_eq_false_iff, decide_eq_false_iff_not, decide_eq_false_iff_not]; omega), decide_eq_true h0, decide_eq_true (p := l.length ≤ 32) (by omega), getD_lt h0]
    have hs : ∀ i : Nat, i < l.length → ref11_Name_lp1 l (i : Int) = some (rndE i (if (low (l.getD i 0) || (!decide (i = 0) && oth (l.getD i 0))) = true then none else some false)) := by
      intro i hi
      unfold ref11_Name_lp1
      rw [bifTd (by omega), idx_nat hi, bind_some, lett_eq, lett_eq, getD_lt hi]
      generalize l[i] = c
      have e : ((!(decide (97 ≤ c) && decide (c ≤ 122))) && ((decide ((i : Int) = 0)) || (!(((decide (48 ≤ c) && decide (c ≤ 57)) || decide (c = 95)) || decide (c = 46))))) = !(low c || (!decide (i = 0) && oth c)) := by
        unfold low oth
        rw [show decide ((i : Int) = 0) = decide (i = 0) by rw [decide_eq_decide]; omega]
        cases decide (97 ≤ c) <;> cases decide (c ≤ 122) <;> cases decide (48 ≤ c) <;> cases decide (c ≤ 57) <;> cases decide (c = 95) <;> cases decide (c = 46) <;> cases decide (i = 0) <;> rfl
      rw [e]
      cases (low c || (!decide (i = 0) && oth c))
      · rfl
      · rw [Bool.not_true, cond_false, lett_eq, w64_succ (by omega), if_pos rfl]; rfl
    rw [scan0 (n := l.length) _ hs (by unfold ref11_Name_lp1; rw [bifFd (by omega)]), flow_E]
    match l, h0 with
    | c :: cs, _ =>
      rw [List.length_cons]
      unfold firstE
      rw [show (c :: cs).getD 0 0 = c from rfl, List.getElem_cons_zero]
      cases hl : low c with
      | false => simp [orE]
      | true =>
        simp only [Bool.true_or, if_true, Bool.true_and, List.all_cons, hl]
        have := all_first (l := cs) (p := fun c => low c || oth c) (e := fun i => if (low (cs.getD i 0) || oth (cs.getD i 0)) = true then none else some false) (fun i hi => by rw [getD_lt hi])
        rw [← this]
        have hshift : ∀ m i, firstE (fun i => if (low ((c :: cs).getD i 0) || (!decide (i = 0) && oth ((c :: cs).getD i 0))) = true then none else some false) m (i + 1) = firstE (fun i => if (low (cs.getD i 0) || oth (cs.getD i 0)) = true then none else some false) m i := by
          intro m
          induction m with
          | zero => intro i; rfl
          | succ m ih =>
            intro i
            unfold firstE
            rw [ih (i + 1), List.getD_cons_succ, show (!decide (i + 1 = 0)) = true by simp, Bool.true_and]
        rw [hshift]
theorem isValue_eq (l : List UInt8) : label_isValue l = some (valueOk l) := by
  unfold label_isValue valueOk
  by_cases h : l.length = 0 ∨ 32 < l.length
  · rw [bifT (by
      rw [Bool.or_eq_true, decide_eq_true_eq, decide_eq_true_eq]
      rcases h with h | h
      · exact .inl (List.eq_nil_of_length_eq_zero h)
      · exact .inr (by omega))]
    rcases h with h | h
    · rw [decide_eq_false (p := 0 < l.length) (by omega)]; rfl
    · rw [decide_eq_false (p := l.length ≤ 32) (by omega), Bool.and_false]; rfl
  · have h0 : 0 < l.length := by omega
    rw [bifF (by
      rw [Bool.or_eq_false_iff, decide_eq_false_iff_not, decide_eq_false_iff_not]
      exact ⟨fun e => by rw [e] at h0; simp at h0, by omega⟩), decide_eq_true h0, decide_eq_true (p := l.length ≤ 32) (by omega),
      scan0 (n := l.length) (fun i => if (!bad (l.getD i 0)) = true then none else some false), flow_E, all_first (p := fun c => !bad c)]
    · simp
    · intro i hi; rw [getD_lt hi]
    · intro i hi
      unfold label_isValue_lp1
      rw [bifTd (by omega), idx_nat hi, bind_some, getD_lt hi]
      generalize l[i] = c
      have e : (lett (decide (c < 33)) fun t44 =>
 bif t44 then
 some t44
 else
 lett (decide (126 < c)) fun t46 =>
 bif t46 then
 some t46
 else
 lett (decide (c = 61)) fun t48 =>
 bif t48 then
 some t48
 else
 lett (decide (c = 59)) fun t50 =>
 bif t50 then
 some t50
 else
 lett (decide (c = 44)) fun t52 =>
 some t52 : Option Bool) = some (bad c) := by
        unfold bad
        have e1 : decide (c < 33) = decide (c ≤ 32) := by rw [decide_eq_decide, UInt8.lt_iff_toNat_lt, UInt8.le_iff_toNat_le]; exact Nat.lt_succ_iff
        have e2 : decide (126 < c) = decide (127 ≤ c) := by rw [decide_eq_decide, UInt8.lt_iff_toNat_lt, UInt8.le_iff_toNat_le]; exact Iff.rfl
        rw [lett_eq, lett_eq, lett_eq, lett_eq, lett_eq, e1, e2]
        cases decide (c ≤ 32) <;> cases decide (127 ≤ c) <;> cases decide (c = 61) <;> cases decide (c = 59) <;> cases decide (c = 44) <;> rfl
      rw [e, bind_some]
      cases bad c
      · rw [cond_false, flow_go, w64_succ (by omega)]; rfl
      · rfl
    · unfold label_isValue_lp1
      rw [bifFd (by omega)]
theorem rValue_eq (l : List UInt8) : ref11_Value l = some (valueOk l) := by
  unfold ref11_Value valueOk
  by_cases h : l.length = 0 ∨ 32 < l.length
  · rw [bifT (by rw [Bool.or_eq_true, decide_eq_true_eq, decide_eq_true_eq]; omega)]
    rcases h with h | h
    · rw [decide_eq_false (p := 0 < l.length) (by omega)]; rfl
    · rw [decide_eq_false (p := l.length ≤ 32) (by omega), Bool.and_false]; rfl
  · have h0 : 0 < l.length := by omega
    rw [bifF (by rw [Bool.or_eq_false_iff, decide_eq_false_iff_not, decide_eq_false_iff_not]; omega), decide_eq_true h0, decide_eq_true (p := l.length ≤ 32) (by omega),
      scan0 (n := l.length) (fun i => if (!bad (l.getD i 0)) = true then none else some false), flow_E, all_first (p := fun c => !bad c)]
    · simp
    · intro i hi; rw [getD_lt hi]
    · intro i hi
      unfold ref11_Value_lp1
      rw [bifTd (by omega), idx_nat hi, bind_some, getD_lt hi]
      generalize l[i] = c
      change (bif bad c then _ else _) = _
      cases bad c
      · rw [cond_false, lett_eq, w64_succ (by omega)]; rfl
      · rfl
    · unfold ref11_Value_lp1
      rw [bifFd (by omega)]
end Go.Lg
namespace Go.Lg
attribute [local irreducible] w64 toU64 toU8 shlU shrU shlB shrB
def P0 : api_Pair := ⟨[], []⟩
def dupB (l : List api_Pair) (i : Nat) : Bool := decide (∃ k, k < i ∧ (l.getD k P0).Key = (l.getD i P0).Key)
/-- what is wrong with the i-th attribute -/
def pairE (l : List api_Pair) (i : Nat) : Option Int :=
  if (nameOk (l.getD i P0).Key && valueOk (l.getD i P0).Val) = true then (if dupB l i = true then some 8 else none) else some 3
def labelE (n : List UInt8) (l : List api_Pair) : Int :=
  if nameOk n = false then 3 else if 4 < l.length then 4 else (firstE (pairE l) l.length 0).getD 0
theorem getD_take {α : Type} (l : List α) {k i : Nat} (d : α) (h : k < i) : (l.take i).getD k d = l.getD k d := by
  simp only [List.getD_eq_getElem?_getD, List.getElem?_take, if_pos h]
theorem first_ex {ρ : Type} {e : Nat → Option ρ} : ∀ m i, firstE e m i ≠ none → ∃ j, i ≤ j ∧ j < i + m ∧ firstE e m i = e j ∧ e j ≠ none
  | 0, i, h => absurd rfl h
  | m + 1, i, h => by
    unfold firstE at *
    cases hc : e i with
    | some r => exact ⟨i, Nat.le_refl _, by omega, by rw [hc], by rw [hc]; simp⟩
    | none =>
      rw [hc] at h
      obtain ⟨j, h1, h2, h3, h4⟩ := first_ex m (i + 1) h
      exact ⟨j, by omega, by omega, h3, h4⟩
theorem dup_lp {e40 : api_Pair} {t : List api_Pair} (ht : t.length ≤ 1000) :
    ((flow (loop (label_Check_lp2 e40 t) 0) fun (_ : Unit) => some (-1) : Option Int).bind fun x103 =>
 lett (decide (0 ≤ x103)) fun t153 => some t153) = some (decide (∃ k, k < t.length ∧ (t.getD k P0).Key = e40.Key)) := by
  have hs : ∀ i : Nat, i < t.length → label_Check_lp2 e40 t (i : Int) = some (rndE i (if (t.getD i P0).Key = e40.Key then some (i : Int) else none)) := by
    intro i hi
    unfold label_Check_lp2
    rw [bifTd (by omega), idx_nat hi, bind_some, lett_eq, bind_some, getD_lt hi]
    by_cases h : t[i].Key = e40.Key
    · rw [bifTd h, if_pos h]; rfl
    · rw [bifFd h, if_neg h, w64_succ (by omega)]; rfl
  rw [scan0 (n := t.length) _ hs (by unfold label_Check_lp2; rw [bifFd (by omega)]), flow_E]
  by_cases hc : firstE (fun i => if (t.getD i P0).Key = e40.Key then some (i : Int) else none) t.length 0 = none
  · rw [hc]
    unfold orE
    dsimp only
    rw [bind_some, lett_eq, decide_eq_false (p := (0 : Int) ≤ -1) (by omega), decide_eq_false]
    rintro ⟨k, hk, he⟩
    have := (firstE_none _ _).1 hc k (by omega) (by omega)
    rw [if_pos he] at this; cases this
  · obtain ⟨j, h1, h2, h3, h4⟩ := first_ex _ _ hc
    rw [h3]
    by_cases hk : (t.getD j P0).Key = e40.Key
    · rw [if_pos hk]
      unfold orE
      dsimp only
      rw [bind_some, lett_eq, decide_eq_true (p := (0 : Int) ≤ (j : Int)) (by omega), decide_eq_true ⟨j, by omega, hk⟩]
    · rw [if_neg hk] at h4; exact absurd rfl h4
theorem label_eq (n : List UInt8) (l : List api_Pair) : label_Check n l = some (labelE n l) := by
  unfold label_Check labelE
  rw [isName_eq, bind_some]
  cases hn : nameOk n with
  | false => rfl
  | true =>
    rw [Bool.not_true, cond_false, if_neg (by simp)]
    by_cases h4 : 4 < l.length
    · rw [bifTd (by omega), if_pos h4]
    · rw [bifFd (by omega), if_neg h4]
      have hs : ∀ i : Nat, i < l.length → label_Check_lp1 l (i : Int) = some (rndE i (pairE l i)) := by
        intro i hi
        have htl : (l.take i).length = i := by rw [List.length_take]; omega
        unfold label_Check_lp1 pairE
        rw [bifTd (by omega), idx_nat hi, bind_some, isName_eq, bind_some, isValue_eq, bind_some, getD_lt hi]
        have e1 : (bif (!nameOk l[i].Key) then some true else some (!valueOk l[i].Val) : Option Bool) = some (!(nameOk l[i].Key && valueOk l[i].Val)) := by cases nameOk l[i].Key <;> rfl
        rw [e1, bind_some]
        cases hp : (nameOk l[i].Key && valueOk l[i].Val) with
        | false => rfl
        | true =>
          have hsl : slc l 0 (i : Int) = some (l.take i) := by rw [show (0 : Int) = ((0 : Nat) : Int) from rfl, slc_nat (by omega) (by omega), List.drop_zero]
          rw [Bool.not_true, cond_false, hsl, bind_some, dup_lp (by omega), bind_some, if_pos rfl]
          have e2 : decide (∃ k, k < (l.take i).length ∧ ((l.take i).getD k P0).Key = l[i].Key) = dupB l i := by
            unfold dupB
            rw [decide_eq_decide, htl]
            constructor
            · rintro ⟨k, h1, h2⟩; exact ⟨k, h1, by rw [getD_take l P0 h1] at h2; rw [h2, getD_lt hi]⟩
            · rintro ⟨k, h1, h2⟩; exact ⟨k, h1, by rw [getD_take l P0 h1]; rw [h2, getD_lt hi]⟩
          rw [e2]
          cases dupB l i
          · rw [cond_false, w64_succ (by omega)]; rfl
          · rfl
      rw [scan0 (n := l.length) _ hs (by unfold label_Check_lp1; rw [bifFd (by omega)]), flow_E]
      cases firstE (pairE l) l.length 0 <;> rfl
theorem rlabel_eq (n : List UInt8) (l : List api_Pair) : ref11_Check n l = some (labelE n l) := by
  unfold ref11_Check labelE
  rw [rName_eq, bind_some]
  cases hn : nameOk n with
  | false => rfl
  | true =>
    rw [Bool.not_true, cond_false, if_neg (by simp)]
    by_cases h4 : 4 < l.length
    · rw [bifTd (by omega), if_pos h4]
    · rw [bifFd (by omega), if_neg h4]
      have hs : ∀ i : Nat, i < l.length → ref11_Check_lp1 l (i : Int) = some (rndE i (pairE l i)) := by
        intro i hi
        unfold ref11_Check_lp1 pairE
        rw [bifTd (by omega), idx_nat hi, bind_some, rName_eq, bind_some, bind_some, rValue_eq, bind_some, getD_lt hi]
        have e1 : (bif (!nameOk l[i].Key) then some true else some (!valueOk l[i].Val) : Option Bool) = some (!(nameOk l[i].Key && valueOk l[i].Val)) := by cases nameOk l[i].Key <;> rfl
        rw [e1, bind_some]
        cases hp : (nameOk l[i].Key && valueOk l[i].Val) with
        | false => rfl
        | true =>
          have hk : ∀ k : Nat, k < i → ref11_Check_lp2 l (i : Int) (k : Int) = some (rndE k (if (l.getD k P0).Key = (l.getD i P0).Key then some (Flow.out (Rnd.out 8)) else none)) := by
            intro k hk
            unfold ref11_Check_lp2
            rw [bifTd (by omega), idx_nat (by omega), bind_some, idx_nat hi, bind_some, getD_lt (show k < l.length by omega), getD_lt hi]
            by_cases h : (l[k]'(by omega)).Key = l[i].Key
            · rw [bifTd h, if_pos h]; rfl
            · rw [bifFd h, if_neg h, lett_eq, w64_succ (by omega)]; rfl
          rw [Bool.not_true, cond_false, if_pos rfl, scan0 (n := i) _ hk (by unfold ref11_Check_lp2; rw [bifFd (by omega)]), flow_E]
          by_cases hc : firstE (fun k => if (l.getD k P0).Key = (l.getD i P0).Key then some (Flow.out (Rnd.out 8) : Flow Unit (Rnd Int Unit Int)) else none) i 0 = none
          · rw [hc]
            have : dupB l i = false := decide_eq_false (by
              rintro ⟨k, h1, h2⟩
              have := (firstE_none _ _).1 hc k (by omega) (by omega)
              rw [if_pos h2] at this; cases this)
            rw [this]
            unfold orE
            dsimp only
            rw [flow_go, lett_eq, w64_succ (by omega)]; rfl
          · obtain ⟨j, h1, h2, h3, h5⟩ := first_ex _ _ hc
            rw [h3]
            by_cases hkk : (l.getD j P0).Key = (l.getD i P0).Key
            · have : dupB l i = true := decide_eq_true ⟨j, by omega, hkk⟩
              rw [if_pos hkk, this]; rfl
            · rw [if_neg hkk] at h5; exact absurd rfl h5
      rw [scan0 (n := l.length) _ hs (by unfold ref11_Check_lp1; rw [bifFd (by omega)]), flow_E]
      cases firstE (pairE l) l.length 0 <;> rfl
end Go.Lg
