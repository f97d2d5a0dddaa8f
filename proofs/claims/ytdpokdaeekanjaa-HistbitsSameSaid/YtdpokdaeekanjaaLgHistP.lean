/- The plain functions, printed by gen.py. -/
import Derived.Test.YtdpokdaeekanjaaLgExt
import Derived.Test.YtdpokdaeekanjaaLgBitsP
set_option linter.unusedVariables false
namespace Go.Lg
structure api_Side where
  Offset : Int
  Counts : List UInt64
  deriving DecidableEq
structure api_Hist where
  Scale : Int
  Zero : UInt64
  Pos : api_Side
  Neg : api_Side
  deriving DecidableEq
structure histbits_Row where
  n : Int
  last : api_Hist
  deriving DecidableEq
structure histbits_shape where
  scale : Int
  posAt : Int
  posSize : Int
  negAt : Int
  negSize : Int
  deriving DecidableEq
structure anon_struct_to_api_Side_a_api_Side_b_api_Side where
  to : Option api_Side
  a : api_Side
  b : api_Side
  deriving DecidableEq
structure ref09_Pair where
  X : api_Hist
  Y : api_Hist
  E : Int
  deriving DecidableEq
structure ref10_State where
  L : List Int
  At : Int
  E : Int
  deriving DecidableEq
structure ref10_Got where
  H : api_Hist
  N : Int
  E : Int
  deriving DecidableEq
structure histbits_reader where
  r : Option bitio_Reader
  e : Int
  deriving DecidableEq
noncomputable def hist_sides (a0 : api_Hist) : Option (List api_Side) :=
 some [a0.Pos, a0.Neg]

noncomputable def hist_Total_lp2 (e67 : api_Side) : (UInt64 × UInt64 × Int) → Option (Rnd (UInt64 × UInt64 × Int) (UInt64 × UInt64) (UInt64 × UInt64)) := fun (sum91, over92, x93) =>
 bif decide (x93 < (e67.Counts.length : Int)) then
 (idx e67.Counts x93).bind fun e103 =>
 lett ((add64S sum91 e103 (0 : UInt64))) fun sum115 =>
 lett ((add64C sum91 e103 (0 : UInt64))) fun carry116 =>
 lett ((over92 ||| carry116)) fun over117 =>
 some (.next (sum115, over117, w64 (x93 + 1)))
 else
 some (.brk (sum91, over92))
noncomputable def hist_Total_lp1 (r28 : List api_Side) : (UInt64 × UInt64 × Int) → Option (Rnd (UInt64 × UInt64 × Int) (UInt64 × UInt64) (UInt64 × UInt64)) := fun (sum48, over49, x50) =>
 bif decide (x50 < 2) then
 (idx r28 x50).bind fun e67 =>
 (flow (loop (hist_Total_lp2 e67) (sum48, over49, 0)) fun (sum94, over95) =>
 some (sum94, over95)).bind fun (sum87, over88) =>
 some (.next (sum87, over88, w64 (x50 + 1)))
 else
 some (.brk (sum48, over49))
noncomputable def hist_Total (a0 : api_Hist) : Option (UInt64 × Bool) :=
 (hist_sides a0).bind fun r28 =>
 (flow (loop (hist_Total_lp1 r28) (a0.Zero, 0, 0)) fun (sum54, over55) =>
 some (sum54, over55)).bind fun (sum41, over42) =>
 bif (!decide (over42 = 0)) then
 some (0, false)
 else
 some (sum41, true)

noncomputable def hist_check (a0 : api_Side) : Option Int :=
 lett ((a0.Counts.length : Int)) fun nv22 =>
 lett (decide (160 < nv22)) fun t23 =>
 bif t23 then
 some 4
 else
 lett (((decide (nv22 = 0)) && (!decide (a0.Offset = 0)))) fun t27 =>
 bif t27 then
 some 3
 else
 lett (decide (nv22 = 0)) fun t30 =>
 bif t30 then
 some 0
 else
 (idx a0.Counts 0).bind fun e33 =>
 (bif decide (e33 = 0) then
 some true
 else
 (idx a0.Counts (w64 (nv22 - 1))).bind fun e49 =>
 some (decide (e49 = 0))).bind fun x45 =>
 bif x45 then
 some 3
 else
 lett (((decide (a0.Offset < (-1073741824))) || (decide (w64 (1073741824 - (w64 (nv22 - 1))) < a0.Offset)))) fun t64 =>
 bif t64 then
 some 1
 else
 some 0

noncomputable def hist_Check_lp1 (r31 : List api_Side) : Int → Option (Rnd Int Unit (Flow Unit Int)) := fun x49 =>
 bif decide (x49 < 2) then
 (idx r31 x49).bind fun e64 =>
 (hist_check e64).bind fun r84 =>
 bif (!decide (r84 = 0)) then
 outr (outs (some r84))
 else
 some (.next (w64 (x49 + 1)))
 else
 some (.brk ())
noncomputable def hist_Check (a0 : api_Hist) : Option Int :=
 bif ((decide (a0.Scale < (-10))) || (decide (20 < a0.Scale))) then
 some 1
 else
 (hist_sides a0).bind fun r31 =>
 flow (flow (loop (hist_Check_lp1 r31) 0) fun (_ : Unit) =>
 some (.go ())) fun (_ : Unit) =>
 (hist_Total a0).bind fun (r101, r102) =>
 bif (!r102) then
 some 4
 else
 some 0

noncomputable def hist_span (a0 : api_Side) (a1 : UInt64) : Option Int :=
 lett ((a0.Counts.length : Int)) fun nv22 =>
 bif decide (nv22 = 0) then
 some 0
 else
 lett (w64 ((w64 ((shrI (w64 ((w64 (a0.Offset + nv22)) - 1)) a1.toNat) - (shrI a0.Offset a1.toNat))) + 1)) fun t25 =>
 some t25

noncomputable def hist_down_lp1 (a0 : api_Side) (a1 : UInt64) : (List UInt64 × Int) → Option (Rnd (List UInt64 × Int) (List UInt64) api_Side) := fun (c204, x207) =>
 bif decide (x207 < (a0.Counts.length : Int)) then
 (idx a0.Counts x207).bind fun e228 =>
 (idx c204 (w64 ((shrI (w64 (a0.Offset + x207)) a1.toNat) - (shrI a0.Offset a1.toNat)))).bind fun e243 =>
 (idx c204 (w64 ((shrI (w64 (a0.Offset + x207)) a1.toNat) - (shrI a0.Offset a1.toNat)))).bind fun e253 =>
 lett ((e243 + e228)) fun t263 =>
 (setI c204 (w64 ((shrI (w64 (a0.Offset + x207)) a1.toNat) - (shrI a0.Offset a1.toNat))) t263).bind fun xs264 =>
 some (.next (xs264, w64 (x207 + 1)))
 else
 some (.brk c204)
noncomputable def hist_down (a0 : api_Side) (a1 : UInt64) : Option api_Side :=
 bif decide ((a0.Counts.length : Int) = 0) then
 some (api_Side.mk 0 [])
 else
 ((hist_span a0 a1).bind fun r70 =>
 ((mk r70 (0 : UInt64)).bind fun t90 =>
 some t90).bind fun x81 =>
 some x81).bind fun x60 =>
 flow (loop (hist_down_lp1 a0 a1) (x60, 0)) fun c211 =>
 some (api_Side.mk (shrI a0.Offset a1.toNat) c211)

noncomputable def hist_Down (a0 : api_Hist) (a1 : Int) : Option (api_Hist × Int) :=
 (hist_Check a0).bind fun r36 =>
 bif (!decide (r36 = 0)) then
 some ((api_Hist.mk 0 0 (api_Side.mk 0 []) (api_Side.mk 0 [])), r36)
 else
 bif ((decide (a1 < 0)) || (decide (w64 (a0.Scale - (-10)) < a1))) then
 some ((api_Hist.mk 0 0 (api_Side.mk 0 []) (api_Side.mk 0 [])), 1)
 else
 (hist_down a0.Pos (toU64 a1)).bind fun r117 =>
 (hist_down a0.Neg (toU64 a1)).bind fun r132 =>
 some ((api_Hist.mk (w64 (a0.Scale - a1)) a0.Zero r117 r132), 0)

noncomputable def hist_At (a0 : api_Side) (a1 : Int) : Option UInt64 :=
 bif ((decide (a1 < a0.Offset)) || (decide (toU64 (a0.Counts.length : Int) ≤ ((toU64 a1) - (toU64 a0.Offset))))) then
 some 0
 else
 (idx a0.Counts (w64 (a1 - a0.Offset))).bind fun e25 =>
 some e25

noncomputable def law08_awake  : Option Bool :=
 (hist_Down (api_Hist.mk 3 0 (api_Side.mk (-3) [1, 2, 3]) (api_Side.mk 0 [])) 1).bind fun (r30, r31) =>
 (bif ((decide (r31 = 0)) && (decide (r30.Scale = 2))) then
 (hist_At r30.Pos (-2)).bind fun r73 =>
 some (decide (r73 = 1))
 else
 some false).bind fun x65 =>
 (bif x65 then
 (hist_At r30.Pos (-1)).bind fun r92 =>
 some (decide (r92 = 5))
 else
 some false).bind fun x82 =>
 (bif (x82 && (decide ((r30.Pos.Counts.length : Int) = 2))) then
 (hist_Check (api_Hist.mk 0 0 (api_Side.mk 0 [0, 1]) (api_Side.mk 0 []))).bind fun r123 =>
 some (decide (r123 = 3))
 else
 some false).bind fun x107 =>
 some x107

noncomputable def ref08_Light (a0 : api_Hist) : Option Bool :=
 lett (((decide ((a0.Pos.Counts.length : Int) ≤ 300)) && (decide ((a0.Neg.Counts.length : Int) ≤ 300)))) fun t29 =>
 some t29

noncomputable def ref08_sum_lp1 (a1 : List UInt64) : (UInt64 × Int) → Option (Rnd (UInt64 × Int) UInt64 (UInt64 × Bool)) := fun (a12, i13) =>
 bif decide (i13 < (a1.length : Int)) then
 (idx a1 i13).bind fun e22 =>
 bif decide (((18446744073709551615 : UInt64) - a12) < e22) then
 outr (some (0, false))
 else
 (idx a1 i13).bind fun e36 =>
 lett ((a12 + e36)) fun a48 =>
 lett (w64 (i13 + 1)) fun i49 =>
 some (.next (a48, i49))
 else
 some (.brk a12)
noncomputable def ref08_sum (a0 : UInt64) (a1 : List UInt64) : Option (UInt64 × Bool) :=
 flow (loop (ref08_sum_lp1 a1) (a0, 0)) fun a14 =>
 some (a14, true)

noncomputable def ref08_Total (a0 : api_Hist) : Option (UInt64 × Bool) :=
 (ref08_sum a0.Zero a0.Pos.Counts).bind fun (r27, r28) =>
 bif (!r28) then
 some (0, false)
 else
 (ref08_sum r27 a0.Neg.Counts).bind fun (r42, r43) =>
 some (r42, r43)

noncomputable def ref08_side (a0 : api_Side) : Option Int :=
 lett ((a0.Counts.length : Int)) fun nv22 =>
 bif decide (160 < nv22) then
 some 4
 else
 bif decide (nv22 = 0) then
 bif (!decide (a0.Offset = 0)) then
 some 3
 else
 some 0
 else
 (idx a0.Counts 0).bind fun e29 =>
 (bif decide (e29 = 0) then
 some true
 else
 (idx a0.Counts (w64 (nv22 - 1))).bind fun e45 =>
 some (decide (e45 = 0))).bind fun x41 =>
 bif x41 then
 some 3
 else
 bif (((decide (a0.Offset < (-1073741824))) || (decide (1073741824 < a0.Offset))) || (decide (1073741824 < w64 ((w64 (a0.Offset + nv22)) - 1)))) then
 some 1
 else
 some 0

noncomputable def ref08_Check (a0 : api_Hist) : Option Int :=
 bif ((decide (a0.Scale < (-10))) || (decide (20 < a0.Scale))) then
 some 1
 else
 (ref08_side a0.Pos).bind fun r30 =>
 bif (!decide (r30 = 0)) then
 some r30
 else
 (ref08_side a0.Neg).bind fun r44 =>
 bif (!decide (r44 = 0)) then
 some r44
 else
 (ref08_Total a0).bind fun (r59, r60) =>
 bif (!r60) then
 some 4
 else
 some 0

noncomputable def law08_HistChecks (a0 : api_Hist) : Option Bool :=
 (law08_awake).bind fun r26 =>
 bif (!r26) then
 some false
 else
 (ref08_Light a0).bind fun r42 =>
 bif (!r42) then
 some true
 else
 (hist_Total a0).bind fun (r56, r57) =>
 (ref08_Total a0).bind fun (r69, r70) =>
 (hist_Check a0).bind fun r97 =>
 (ref08_Check a0).bind fun r108 =>
 lett ((((decide (r97 = r108)) && (decide (r56 = r69))) && (decide (r57 = r70)))) fun t160 =>
 some t160

noncomputable def ref08_SameSide_lp1 (a0 : api_Side) (a1 : api_Side) : Int → Option (Rnd Int Unit Bool) := fun i39 =>
 bif decide (i39 < (a0.Counts.length : Int)) then
 (idx a0.Counts i39).bind fun e60 =>
 (idx a1.Counts i39).bind fun e75 =>
 bif (!decide (e60 = e75)) then
 outr (some false)
 else
 lett (w64 (i39 + 1)) fun i92 =>
 some (.next i92)
 else
 some (.brk ())
noncomputable def ref08_SameSide (a0 : api_Side) (a1 : api_Side) : Option Bool :=
 bif ((!decide (a0.Offset = a1.Offset)) || (!decide ((a0.Counts.length : Int) = (a1.Counts.length : Int)))) then
 some false
 else
 flow (loop (ref08_SameSide_lp1 a0 a1) 0) fun (_ : Unit) =>
 some true

noncomputable def ref08_Same (a0 : api_Hist) (a1 : api_Hist) : Option Bool :=
 (bif ((decide (a0.Scale = a1.Scale)) && (decide (a0.Zero = a1.Zero))) then
 (ref08_SameSide a0.Pos a1.Pos).bind fun r55 =>
 some r55
 else
 some false).bind fun x45 =>
 (bif x45 then
 (ref08_SameSide a0.Neg a1.Neg).bind fun r78 =>
 some r78
 else
 some false).bind fun x64 =>
 some x64

noncomputable def law08_HistTwice (a0 : api_Hist) (a1 : Int) (a2 : Int) (a3 : Int) : Option Bool :=
 (law08_awake).bind fun r26 =>
 bif (!r26) then
 some false
 else
 (ref08_Light a0).bind fun r42 =>
 bif (((((((!r42) || (decide (a1 < 0))) || (decide (a2 < 0))) || (decide (100 < a1))) || (decide (100 < a2))) || (decide (1099511627776 < a3))) || (decide (a3 < (-1099511627776)))) then
 some true
 else
 (hist_Down a0 a1).bind fun (r62, r63) =>
 (hist_Down r62 a2).bind fun (r98, r99) =>
 (hist_Down a0 (w64 (a1 + a2))).bind fun (r150, r151) =>
 bif ((!decide (r63 = 0)) || (!decide (r99 = 0))) then
 lett ((!decide (r151 = 0))) fun t186 =>
 some t186
 else
 (hist_Total a0).bind fun (r197, r198) =>
 (hist_Total r150).bind fun (r212, r213) =>
 (bif (!decide (r151 = 0)) then
 some true
 else
 (ref08_Same r98 r150).bind fun r249 =>
 some (!r249)).bind fun x222 =>
 (bif x222 then
 some true
 else
 (hist_Check r150).bind fun r271 =>
 some (!decide (r271 = 0))).bind fun x258 =>
 bif (((x258 || (!decide (r197 = r212))) || (!r198)) || (!r213)) then
 some false
 else
 (hist_Down a0 1).bind fun (r297, r298) =>
 bif (!decide (r298 = 0)) then
 lett (decide (a0.Scale = (-10))) fun t335 =>
 some t335
 else
 (hist_At r297.Pos a3).bind fun r389 =>
 (hist_At a0.Pos (w64 (2 * a3))).bind fun r403 =>
 (hist_At a0.Pos (w64 ((w64 (2 * a3)) + 1))).bind fun r413 =>
 (bif decide (r389 = (r403 + r413)) then
 (hist_At r297.Neg a3).bind fun r501 =>
 (hist_At a0.Neg (w64 (2 * a3))).bind fun r518 =>
 (hist_At a0.Neg (w64 ((w64 (2 * a3)) + 1))).bind fun r528 =>
 some (decide (r501 = (r518 + r528)))
 else
 some false).bind fun x431 =>
 some x431

noncomputable def ref08_Trim_lp1 : (List UInt64 × Int) → Option (Rnd (List UInt64 × Int) (List UInt64 × Int) (List UInt64 × Int)) := fun (l36, at39) =>
 (bif decide (0 < (l36.length : Int)) then
 (idx l36 0).bind fun e62 =>
 some (decide (e62 = 0))
 else
 some false).bind fun x58 =>
 bif x58 then
 (slc l36 1 (l36.length : Int)).bind fun t75 =>
 lett (w64 (at39 + 1)) fun at79 =>
 some (.next (t75, at79))
 else
 some (.brk (l36, at39))
noncomputable def ref08_Trim_lp2 : (List UInt64) → Option (Rnd (List UInt64) (List UInt64) (List UInt64)) := fun l88 =>
 (bif decide (0 < (l88.length : Int)) then
 (idx l88 (w64 ((l88.length : Int) - 1))).bind fun e110 =>
 some (decide (e110 = 0))
 else
 some false).bind fun x106 =>
 bif x106 then
 (slc l88 0 (w64 ((l88.length : Int) - 1))).bind fun t123 =>
 some (.next t123)
 else
 some (.brk l88)
noncomputable def ref08_Trim (a0 : api_Side) : Option api_Side :=
 (flow (loop (ref08_Trim_lp1) (a0.Counts, a0.Offset)) fun (l43, at46) =>
 some (l43, at46)).bind fun (l27, at30) =>
 (flow (loop (ref08_Trim_lp2) l27) fun l94 =>
 some l94).bind fun l80 =>
 bif decide ((l80.length : Int) = 0) then
 some (api_Side.mk 0 [])
 else
 (app [] l80).bind fun xs134 =>
 some (api_Side.mk at30 xs134)

noncomputable def ref08_half (a0 : Int) : Option Int :=
 bif decide (a0 < 0) then
 lett (w64 (0 - (w64 ((w64 (1 - a0)).tdiv 2)))) fun t12 =>
 some t12
 else
 lett (w64 (a0.tdiv 2)) fun t14 =>
 some t14

noncomputable def ref08_once_lp1 (a0 : api_Side) : (Int × List UInt64 × Int) → Option (Rnd (Int × List UInt64 × Int) (Int × List UInt64) api_Side) := fun (c32, c33, i36) =>
 bif decide (i36 < (a0.Counts.length : Int)) then
 ((ref08_half (w64 (a0.Offset + i36))).bind fun r72 =>
 bif decide ((c33.length : Int) = 0) then
 (idx a0.Counts i36).bind fun e89 =>
 some (r72, [e89])
 else
 bif decide (r72 = w64 ((w64 (c32 + (c33.length : Int))) - 1)) then
 lett ((c33.length : Int)) fun nv122 =>
 (idx c33 (w64 (nv122 - 1))).bind fun e126 =>
 (idx a0.Counts i36).bind fun e139 =>
 lett ((e126 + e139)) fun last153 =>
 (slc c33 0 (w64 (nv122 - 1))).bind fun t160 =>
 (app [] t160).bind fun xs164 =>
 (app xs164 [last153]).bind fun xs175 =>
 some (c32, xs175)
 else
 (idx a0.Counts i36).bind fun e219 =>
 (app c33 [e219]).bind fun xs245 =>
 some (c32, xs245)).bind fun (c63, c64) =>
 lett (w64 (i36 + 1)) fun i271 =>
 some (.next (c63, c64, i271))
 else
 some (.brk (c32, c33))
noncomputable def ref08_once (a0 : api_Side) : Option api_Side :=
 flow (loop (ref08_once_lp1 a0) (0, [], 0)) fun (c41, c42) =>
 some (api_Side.mk c41 c42)

noncomputable def ref08_Down_lp1 (a1 : Int) : (Int × Int × List UInt64 × Int × List UInt64 × Int) → Option (Rnd (Int × Int × List UInt64 × Int × List UInt64 × Int) (Int × Int × List UInt64 × Int × List UInt64) (api_Hist × Int)) := fun (c293, c294, c295, c298, c299, i302) =>
 bif decide (i302 < a1) then
 (ref08_once (api_Side.mk c294 c295)).bind fun r366 =>
 (ref08_once (api_Side.mk c298 c299)).bind fun r380 =>
 lett (w64 (i302 + 1)) fun i410 =>
 some (.next (w64 (c293 - 1), r366.Offset, r366.Counts, r380.Offset, r380.Counts, i410))
 else
 some (.brk (c293, c294, c295, c298, c299))
noncomputable def ref08_Down (a0 : api_Hist) (a1 : Int) : Option (api_Hist × Int) :=
 (ref08_Check a0).bind fun r36 =>
 bif (!decide (r36 = 0)) then
 some ((api_Hist.mk 0 0 (api_Side.mk 0 []) (api_Side.mk 0 [])), r36)
 else
 bif ((decide (a1 < 0)) || (decide (w64 (a0.Scale - (-10)) < a1))) then
 some ((api_Hist.mk 0 0 (api_Side.mk 0 []) (api_Side.mk 0 [])), 1)
 else
 ((ref08_Trim a0.Pos).bind fun r115 =>
 ((ref08_Trim a0.Neg).bind fun r145 =>
 some (r115.Counts, r145.Offset, r145.Counts)).bind fun (x129, x132, x133) =>
 some (r115.Offset, x129, x132, x133)).bind fun (x99, x100, x103, x104) =>
 flow (loop (ref08_Down_lp1 a1) (a0.Scale, x99, x100, x103, x104, 0)) fun (c307, c308, c309, c312, c313) =>
 some ((api_Hist.mk c307 a0.Zero (api_Side.mk c308 c309) (api_Side.mk c312 c313)), 0)

noncomputable def hist_Fit_lp1 (a0 : api_Hist) (a1 : Int) : Int → Option (Rnd Int Unit (api_Hist × Int)) := fun by51 =>
 bif decide (by51 ≤ w64 (a0.Scale - (-10))) then
 (hist_span a0.Pos (toU64 by51)).bind fun r103 =>
 (hist_span a0.Neg (toU64 by51)).bind fun r116 =>
 bif decide ((max r103 r116) ≤ a1) then
 (hist_Down a0 by51).bind fun (r138, r139) =>
 outr (some (r138, r139))
 else
 lett (w64 (by51 + 1)) fun by174 =>
 some (.next by174)
 else
 some (.brk ())
noncomputable def hist_Fit (a0 : api_Hist) (a1 : Int) : Option (api_Hist × Int) :=
 (hist_Check a0).bind fun r36 =>
 bif (!decide (r36 = 0)) then
 some ((api_Hist.mk 0 0 (api_Side.mk 0 []) (api_Side.mk 0 [])), r36)
 else
 flow (loop (hist_Fit_lp1 a0 a1) 0) fun (_ : Unit) =>
 some ((api_Hist.mk 0 0 (api_Side.mk 0 []) (api_Side.mk 0 [])), 4)

noncomputable def ref08_Fit_lp1 (a0 : api_Hist) (a1 : Int) : Int → Option (Rnd Int Unit (api_Hist × Int)) := fun by51 =>
 bif decide (by51 ≤ w64 (a0.Scale - (-10))) then
 (ref08_Down a0 by51).bind fun (r71, r72) =>
 bif ((decide ((r71.Pos.Counts.length : Int) ≤ a1)) && (decide ((r71.Neg.Counts.length : Int) ≤ a1))) then
 outr (some (r71, 0))
 else
 lett (w64 (by51 + 1)) fun by121 =>
 some (.next by121)
 else
 some (.brk ())
noncomputable def ref08_Fit (a0 : api_Hist) (a1 : Int) : Option (api_Hist × Int) :=
 (ref08_Check a0).bind fun r36 =>
 bif (!decide (r36 = 0)) then
 some ((api_Hist.mk 0 0 (api_Side.mk 0 []) (api_Side.mk 0 [])), r36)
 else
 flow (loop (ref08_Fit_lp1 a0 a1) 0) fun (_ : Unit) =>
 some ((api_Hist.mk 0 0 (api_Side.mk 0 []) (api_Side.mk 0 [])), 4)

noncomputable def law08_HistDowns (a0 : api_Hist) (a1 : Int) (a2 : Int) : Option Bool :=
 (law08_awake).bind fun r26 =>
 bif (!r26) then
 some false
 else
 (ref08_Light a0).bind fun r42 =>
 bif (!r42) then
 some true
 else
 (hist_Down a0 a1).bind fun (r56, r57) =>
 (ref08_Down a0 a1).bind fun (r99, r100) =>
 (hist_Fit a0 a2).bind fun (r142, r143) =>
 (ref08_Fit a0 a2).bind fun (r185, r186) =>
 (ref08_Same r56 r99).bind fun r268 =>
 (bif (r268 && (decide (r57 = r100))) then
 (ref08_Same r142 r185).bind fun r304 =>
 some r304
 else
 some false).bind fun x278 =>
 lett ((x278 && (decide (r143 = r186)))) fun t314 =>
 some t314

noncomputable def law08_HistFits (a0 : api_Hist) (a1 : Int) : Option Bool :=
 (law08_awake).bind fun r26 =>
 bif (!r26) then
 some false
 else
 (ref08_Light a0).bind fun r42 =>
 bif (!r42) then
 some true
 else
 (hist_Fit a0 a1).bind fun (r56, r57) =>
 bif (!decide (r57 = 0)) then
 (ref08_Same r56 (api_Hist.mk 0 0 (api_Side.mk 0 []) (api_Side.mk 0 []))).bind fun r93 =>
 some r93
 else
 bif (((decide (a1 < (r56.Pos.Counts.length : Int))) || (decide (a1 < (r56.Neg.Counts.length : Int)))) || (decide (a0.Scale < r56.Scale))) then
 some false
 else
 bif decide (r56.Scale = a0.Scale) then
 (ref08_Same r56 a0).bind fun r123 =>
 some r123
 else
 (hist_Down a0 (w64 ((w64 (a0.Scale - r56.Scale)) - 1))).bind fun (r139, r140) =>
 lett (((decide (r140 = 0)) && ((decide (a1 < (r139.Pos.Counts.length : Int))) || (decide (a1 < (r139.Neg.Counts.length : Int)))))) fun t177 =>
 some t177

def slices_Clone_uint64_uint64 (a0 : List UInt64) : Option (List UInt64) := app [] a0

noncomputable def hist_Trim_lp1 (a0 : api_Side) (to33 : Int) : Int → Option (Rnd Int Int Int) := fun from37 =>
 (bif decide (from37 < to33) then
 (idx a0.Counts from37).bind fun e49 =>
 some (decide (e49 = 0))
 else
 some false).bind fun x45 =>
 bif x45 then
 lett (w64 (from37 + 1)) fun from62 =>
 some (.next from62)
 else
 some (.brk from37)
noncomputable def hist_Trim_lp2 (a0 : api_Side) (from34 : Int) : Int → Option (Rnd Int Int Int) := fun to66 =>
 (bif decide (from34 < to66) then
 (idx a0.Counts (w64 (to66 - 1))).bind fun e78 =>
 some (decide (e78 = 0))
 else
 some false).bind fun x74 =>
 bif x74 then
 lett (w64 (to66 - 1)) fun to91 =>
 some (.next to91)
 else
 some (.brk to66)
noncomputable def hist_Trim (a0 : api_Side) : Option api_Side :=
 lett ((a0.Counts.length : Int)) fun to33 =>
 (flow (loop (hist_Trim_lp1 a0 to33) 0) fun from38 =>
 some from38).bind fun from34 =>
 (flow (loop (hist_Trim_lp2 a0 from34) to33) fun to67 =>
 some to67).bind fun to63 =>
 bif decide (from34 = to63) then
 some (api_Side.mk 0 [])
 else
 (slc a0.Counts from34 to63).bind fun t128 =>
 (slices_Clone_uint64_uint64 t128).bind fun r136 =>
 some (api_Side.mk (w64 (a0.Offset + from34)) r136)

noncomputable def law08_HistSides_lp1 (a0 : api_Side) (a1 : Int) : (UInt64 × Int) → Option (Rnd (UInt64 × Int) UInt64 UInt64) := fun (want42, i43) =>
 bif decide (i43 < (a0.Counts.length : Int)) then
 (bif decide (w64 (a0.Offset + i43) = a1) then
 (idx a0.Counts i43).bind fun e56 =>
 some e56
 else
 some want42).bind fun want52 =>
 lett (w64 (i43 + 1)) fun i68 =>
 some (.next (want52, i68))
 else
 some (.brk want42)
noncomputable def law08_HistSides (a0 : api_Side) (a1 : Int) : Option Bool :=
 (law08_awake).bind fun r21 =>
 bif (!r21) then
 some false
 else
 bif (((decide (300 < (a0.Counts.length : Int))) || (decide (1099511627776 < a0.Offset))) || (decide (a0.Offset < (-1099511627776)))) then
 some true
 else
 (flow (loop (law08_HistSides_lp1 a0 a1) (0, 0)) fun want44 =>
 some want44).bind fun want39 =>
 (hist_At a0 a1).bind fun r83 =>
 (bif decide (r83 = want39) then
 (hist_Trim a0).bind fun r119 =>
 (ref08_Trim a0).bind fun r132 =>
 (ref08_SameSide r119 r132).bind fun r145 =>
 some r145
 else
 some false).bind fun x98 =>
 some x98

noncomputable def histbits_NewRow  : Option histbits_Row :=
 some (histbits_Row.mk 0 (api_Hist.mk 0 0 (api_Side.mk 0 []) (api_Side.mk 0 [])))

noncomputable def hist_Clone (a0 : api_Hist) : Option api_Hist :=
 (slices_Clone_uint64_uint64 a0.Pos.Counts).bind fun r60 =>
 (slices_Clone_uint64_uint64 a0.Neg.Counts).bind fun r82 =>
 some (api_Hist.mk a0.Scale a0.Zero (api_Side.mk a0.Pos.Offset r60) (api_Side.mk a0.Neg.Offset r82))

noncomputable def histbits_of (a0 : api_Hist) : Option histbits_shape :=
 some (histbits_shape.mk a0.Scale a0.Pos.Offset (a0.Pos.Counts.length : Int) a0.Neg.Offset (a0.Neg.Counts.length : Int))

noncomputable def histbits_counts (a0 : api_Hist) : Option (List UInt64) :=
 (app [a0.Zero] a0.Pos.Counts).bind fun xs32 =>
 (app xs32 a0.Neg.Counts).bind fun xs41 =>
 some xs41

noncomputable def histbits_Row_Len (a0 : histbits_Row) : Option Int :=
 some a0.n

noncomputable def law10_some_lp1 (a0 : List api_Hist) : Int → Option (Rnd Int Unit Bool) := fun i14 =>
 bif decide (i14 < (a0.length : Int)) then
 (idx a0 i14).bind fun e22 =>
 (bif decide (170 < (e22.Pos.Counts.length : Int)) then
 some true
 else
 (idx a0 i14).bind fun e42 =>
 some (decide (170 < (e42.Neg.Counts.length : Int)))).bind fun x38 =>
 bif x38 then
 outr (some false)
 else
 lett (w64 (i14 + 1)) fun i60 =>
 some (.next i60)
 else
 some (.brk ())
noncomputable def law10_some (a0 : List api_Hist) : Option Bool :=
 bif decide (30 < (a0.length : Int)) then
 some false
 else
 flow (loop (law10_some_lp1 a0) 0) fun (_ : Unit) =>
 some true

noncomputable def fold_Level_lp1 (a0 : api_Hist) (a1 : api_Hist) : Int → Option (Rnd Int Unit (Flow Unit (api_Hist × api_Hist × Int))) := fun x63 =>
 bif decide (x63 < 2) then
 (idx [a0, a1] x63).bind fun e95 =>
 (hist_Check e95).bind fun r123 =>
 bif (!decide (r123 = 0)) then
 outr (outs (some ((api_Hist.mk 0 0 (api_Side.mk 0 []) (api_Side.mk 0 [])), (api_Hist.mk 0 0 (api_Side.mk 0 []) (api_Side.mk 0 [])), r123)))
 else
 some (.next (w64 (x63 + 1)))
 else
 some (.brk ())
noncomputable def fold_Level (a0 : api_Hist) (a1 : api_Hist) : Option (api_Hist × api_Hist × Int) :=
 flow (flow (loop (fold_Level_lp1 a0 a1) 0) fun (_ : Unit) =>
 some (.go ())) fun (_ : Unit) =>
 lett ((min a0.Scale a1.Scale)) fun scale153 =>
 (hist_Down a0 (w64 (a0.Scale - scale153))).bind fun (r164, r165) =>
 (hist_Down a1 (w64 (a1.Scale - scale153))).bind fun (r208, r209) =>
 some (r164, r208, 0)

noncomputable def fold_ends (a0 : api_Side) : Option (Int × Int) :=
 lett (w64 (a0.Offset + (a0.Counts.length : Int))) fun to26 =>
 some (a0.Offset, to26)

noncomputable def fold_cover (a0 : api_Side) (a1 : api_Side) : Option (Int × Int) :=
 bif decide ((a0.Counts.length : Int) = 0) then
 lett ((a1.Counts.length : Int)) fun nv41 =>
 some (a1.Offset, nv41)
 else
 bif decide ((a1.Counts.length : Int) = 0) then
 lett ((a0.Counts.length : Int)) fun nv49 =>
 some (a0.Offset, nv49)
 else
 (fold_ends a0).bind fun (r51, r52) =>
 (fold_ends a1).bind fun (r63, r64) =>
 lett ((min r51 r63)) fun from73 =>
 lett ((max r52 r64)) fun end74 =>
 lett (w64 (end74 - from73)) fun nv75 =>
 some (from73, nv75)

noncomputable def fold_left_lp1 (a0 : api_Side) (a1 : api_Side) : Int → Option (Rnd Int Unit (Flow Unit (api_Side × Bool))) := fun x45 =>
 bif decide (x45 < (a1.Counts.length : Int)) then
 (idx a1.Counts x45).bind fun e59 =>
 (hist_At a0 (w64 (a1.Offset + x45))).bind fun r80 =>
 bif decide (r80 < e59) then
 outr (outs (some ((api_Side.mk 0 []), false)))
 else
 some (.next (w64 (x45 + 1)))
 else
 some (.brk ())
noncomputable def fold_left_lp2 (a0 : api_Side) (a1 : api_Side) : (List UInt64 × Int) → Option (Rnd (List UInt64 × Int) (List UInt64) (List UInt64)) := fun (c125, x128) =>
 bif decide (x128 < (a0.Counts.length : Int)) then
 (idx a0.Counts x128).bind fun e146 =>
 (hist_At a1 (w64 (a0.Offset + x128))).bind fun r201 =>
 (app c125 [(e146 - r201)]).bind fun xs218 =>
 some (.next (xs218, w64 (x128 + 1)))
 else
 some (.brk c125)
noncomputable def fold_left (a0 : api_Side) (a1 : api_Side) : Option (api_Side × Bool) :=
 flow (flow (loop (fold_left_lp1 a0 a1) 0) fun (_ : Unit) =>
 some (.go ())) fun (_ : Unit) =>
 (flow (loop (fold_left_lp2 a0 a1) ([], 0)) fun c133 =>
 some c133).bind fun c116 =>
 (hist_Trim (api_Side.mk a0.Offset c116)).bind fun r250 =>
 some (r250, true)

noncomputable def fold_Sub (a0 : api_Hist) (a1 : api_Hist) : Option (api_Hist × Int) :=
 (fold_Level a0 a1).bind fun (r61, r62, r63) =>
 bif (!decide (r63 = 0)) then
 some ((api_Hist.mk 0 0 (api_Side.mk 0 []) (api_Side.mk 0 [])), r63)
 else
 (fold_left r61.Pos r62.Pos).bind fun (r142, r143) =>
 (fold_left r61.Neg r62.Neg).bind fun (r183, r184) =>
 bif (((decide (r61.Zero < r62.Zero)) || (!r143)) || (!r184)) then
 some ((api_Hist.mk 0 0 (api_Side.mk 0 []) (api_Side.mk 0 [])), 7)
 else
 some ((api_Hist.mk r61.Scale (r61.Zero - r62.Zero) r142 r183), 0)

noncomputable def fold_Empty (a0 : api_Hist) : Option Bool :=
 lett ((((decide (a0.Zero = 0)) && (decide ((a0.Pos.Counts.length : Int) = 0))) && (decide ((a0.Neg.Counts.length : Int) = 0)))) fun t30 =>
 some t30

noncomputable def ref09_Level (a0 : api_Hist) (a1 : api_Hist) : Option ref09_Pair :=
 (ref08_Check a0).bind fun r56 =>
 bif (!decide (r56 = 0)) then
 some (ref09_Pair.mk (api_Hist.mk 0 0 (api_Side.mk 0 []) (api_Side.mk 0 [])) (api_Hist.mk 0 0 (api_Side.mk 0 []) (api_Side.mk 0 [])) r56)
 else
 (ref08_Check a1).bind fun r79 =>
 bif (!decide (r79 = 0)) then
 some (ref09_Pair.mk (api_Hist.mk 0 0 (api_Side.mk 0 []) (api_Side.mk 0 [])) (api_Hist.mk 0 0 (api_Side.mk 0 []) (api_Side.mk 0 [])) r79)
 else
 (bif decide (a1.Scale < a0.Scale) then
 some a1.Scale
 else
 some a0.Scale).bind fun s97 =>
 (ref08_Down a0 (w64 (a0.Scale - s97))).bind fun (r106, r107) =>
 (ref08_Down a1 (w64 (a1.Scale - s97))).bind fun (r152, r153) =>
 some (ref09_Pair.mk r106 r152 0)

noncomputable def ref09_At (a0 : api_Side) (a1 : Int) : Option UInt64 :=
 bif ((decide (a1 < a0.Offset)) || (decide (w64 (a0.Offset + (a0.Counts.length : Int)) ≤ a1))) then
 some 0
 else
 (idx a0.Counts (w64 (a1 - a0.Offset))).bind fun e25 =>
 some e25

noncomputable def ref10_State_bits (a0 : ref10_State) (a1 : Int) : Option (Int × ref10_State) :=
 bif (!decide (a0.E = 0)) then
 some (0, a0)
 else
 bif decide (w64 ((a0.L.length : Int) - a0.At) < a1) then
 some (0, (ref10_State.mk a0.L a0.At 2))
 else
 lett (w64 (a0.At + a1)) fun t25 =>
 (slc a0.L (w64 (t25 - a1)) t25).bind fun t32 =>
 (ref01_Number t32).bind fun r38 =>
 lett (w64 (r38.toNat : Int)) fun t47 =>
 some (t47, (ref10_State.mk a0.L t25 a0.E))

noncomputable def ref10_all (a0 : api_Hist) : Option (List UInt64) :=
 (app [a0.Zero] a0.Pos.Counts).bind fun xs32 =>
 (app xs32 a0.Neg.Counts).bind fun xs41 =>
 some xs41

noncomputable def ref10_State_small (a0 : ref10_State) : Option (UInt64 × ref10_State) :=
 bif (!decide (a0.E = 0)) then
 some (0, a0)
 else
 (slc a0.L a0.At (a0.L.length : Int)).bind fun t45 =>
 ((ref06_GetSmall t45).bind fun r64 =>
 some (r64.V, r64.N, r64.E)).bind fun (x55, x56, x57) =>
 lett (w64 (a0.At + x56)) fun t114 =>
 some (x55, (ref10_State.mk a0.L t114 x57))

noncomputable def ref10_State_side_lp1 (r20 : Int) : (List UInt64 × Int) → Option (Rnd (List UInt64 × Int) (List UInt64) (api_Side × ref10_State)) := fun (c92, i95) =>
 bif decide (i95 < r20) then
 (app c92 [0]).bind fun xs118 =>
 lett (w64 (i95 + 1)) fun i134 =>
 some (.next (xs118, i134))
 else
 some (.brk c92)
noncomputable def ref10_State_side (a0 : ref10_State) : Option (api_Side × ref10_State) :=
 (ref10_State_bits a0 8).bind fun (r20, r21) =>
 (bif ((decide (r21.E = 0)) && (decide (160 < r20))) then
 some 4
 else
 some r21.E).bind fun c36 =>
 bif ((!decide (c36 = 0)) || (decide (r20 = 0))) then
 some ((api_Side.mk 0 []), (ref10_State.mk r21.L r21.At c36))
 else
 (ref10_State_small (ref10_State.mk r21.L r21.At c36)).bind fun (r59, r60) =>
 (ref02_Zag r59).bind fun r74 =>
 flow (loop (ref10_State_side_lp1 r20) ([], 0)) fun c100 =>
 some ((api_Side.mk r74 c100), r60)

noncomputable def ref10_Alike (a0 : api_Hist) (a1 : api_Hist) : Option Bool :=
 lett ((((((decide (a0.Scale = a1.Scale)) && (decide (a0.Pos.Offset = a1.Pos.Offset))) && (decide (a0.Neg.Offset = a1.Neg.Offset))) && (decide ((a0.Pos.Counts.length : Int) = (a1.Pos.Counts.length : Int)))) && (decide ((a0.Neg.Counts.length : Int) = (a1.Neg.Counts.length : Int))))) fun t54 =>
 some t54

noncomputable def ref10_Get_lp1 (same44 : Bool) (was81 : List UInt64) (nv241 : Int) : (List Int × Int × Int × List UInt64 × Int) → Option (Rnd (List Int × Int × Int × List UInt64 × Int) (List Int × Int × Int × List UInt64) (List Int × Int × Int × List UInt64)) := fun (c257, c260, c261, now262, i265) =>
 bif decide (i265 < nv241) then
 ((ref10_State_small (ref10_State.mk c257 c260 c261)).bind fun (r302, r303) =>
 (bif same44 then
 (idx was81 i265).bind fun e332 =>
 (ref02_Zag r302).bind fun r355 =>
 lett ((e332 + (toU64 r355))) fun v370 =>
 some v370
 else
 some r302).bind fun v317 =>
 (app now262 [v317]).bind fun xs379 =>
 some (r303.L, r303.At, r303.E, xs379)).bind fun (c289, c292, c293, now294) =>
 lett (w64 (i265 + 1)) fun i399 =>
 some (.next (c289, c292, c293, now294, i399))
 else
 some (.brk (c257, c260, c261, now262))
noncomputable def ref10_Get (a0 : List api_Hist) (a1 : List Int) : Option ref10_Got :=
 (ref10_State_bits (ref10_State.mk a1 0 0) 1).bind fun (r29, r30) =>
 lett (decide (r29 = 1)) fun same44 =>
 bif (same44 && (decide ((a0.length : Int) = 0))) then
 some (ref10_Got.mk (api_Hist.mk 0 0 (api_Side.mk 0 []) (api_Side.mk 0 [])) 0 3)
 else
 (bif same44 then
 (idx a0 (w64 ((a0.length : Int) - 1))).bind fun e95 =>
 (ref10_all e95).bind fun r124 =>
 some (r30.L, r30.At, r30.E, e95.Scale, e95.Zero, e95.Pos.Offset, e95.Pos.Counts, e95.Neg.Offset, e95.Neg.Counts, r124)
 else
 (ref10_State_bits r30 5).bind fun (r159, r160) =>
 lett (w64 (r159 - 10)) fun t174 =>
 (ref10_State_side r160).bind fun (r181, r182) =>
 (ref10_State_side r182).bind fun (r209, r210) =>
 some (r210.L, r210.At, r210.E, t174, 0, r181.Offset, r181.Counts, r209.Offset, r209.Counts, [])).bind fun (c65, c68, c69, c71, c72, c73, c74, c77, c78, was81) =>
 lett (w64 ((w64 (1 + (c74.length : Int))) + (c78.length : Int))) fun nv241 =>
 (flow (loop (ref10_Get_lp1 same44 was81 nv241) (c65, c68, c69, [], 0)) fun (c270, c273, c274, now275) =>
 some (c270, c273, c274, now275)).bind fun (c243, c246, c247, now248) =>
 bif (!decide (c247 = 0)) then
 some (ref10_Got.mk (api_Hist.mk 0 0 (api_Side.mk 0 []) (api_Side.mk 0 [])) 0 c247)
 else
 lett (w64 (1 + (c74.length : Int))) fun k428 =>
 (idx now248 0).bind fun e429 =>
 (slc now248 1 k428).bind fun t442 =>
 (slc now248 k428 (now248.length : Int)).bind fun t458 =>
 (ref08_Check (api_Hist.mk c71 e429 (api_Side.mk c73 t442) (api_Side.mk c77 t458))).bind fun r473 =>
 bif (!decide (r473 = 0)) then
 some (ref10_Got.mk (api_Hist.mk 0 0 (api_Side.mk 0 []) (api_Side.mk 0 [])) 0 r473)
 else
 (bif ((!same44) && (decide (0 < (a0.length : Int)))) then
 (idx a0 (w64 ((a0.length : Int) - 1))).bind fun e577 =>
 (ref10_Alike e577 (api_Hist.mk c71 e429 (api_Side.mk c73 t442) (api_Side.mk c77 t458))).bind fun r623 =>
 some r623
 else
 some false).bind fun x543 =>
 bif x543 then
 some (ref10_Got.mk (api_Hist.mk 0 0 (api_Side.mk 0 []) (api_Side.mk 0 [])) 0 3)
 else
 some (ref10_Got.mk (api_Hist.mk c71 e429 (api_Side.mk c73 t442) (api_Side.mk c77 t458)) c246 0)

noncomputable def histbits_Row_Clone (a0 : histbits_Row) : Option histbits_Row :=
 (hist_Clone a0.last).bind fun r46 =>
 some (histbits_Row.mk a0.n r46)

noncomputable def ref10_number (a0 : Int) (a1 : Int) : Option (List Int) :=
 (ref01_Row (toU64 a0) a1).bind fun (r11, r12) =>
 some r11

noncomputable def ref10_shape (a0 : api_Side) : Option (List Int) :=
 (ref10_number (a0.Counts.length : Int) 8).bind fun r22 =>
 bif decide (0 < (a0.Counts.length : Int)) then
 (ref02_Zig a0.Offset).bind fun r37 =>
 (ref06_Small r37).bind fun r46 =>
 (app r22 r46).bind fun xs58 =>
 some xs58
 else
 some r22

noncomputable def ref10_Put_lp1 (r167 : List UInt64) (r181 : List UInt64) : (List Int × Int) → Option (Rnd (List Int × Int) (List Int) (List Int)) := fun (out199, i202) =>
 bif decide (i202 < (r167.length : Int)) then
 (idx r167 i202).bind fun e238 =>
 (idx r181 i202).bind fun e262 =>
 (ref02_Zig (w64 ((e238 - e262).toNat : Int))).bind fun r287 =>
 (ref06_Small r287).bind fun r296 =>
 (app out199 r296).bind fun xs308 =>
 lett (w64 (i202 + 1)) fun i320 =>
 some (.next (xs308, i320))
 else
 some (.brk out199)
noncomputable def ref10_Put_lp2 (r416 : List UInt64) : (List Int × Int) → Option (Rnd (List Int × Int) (List Int) (List Int)) := fun (out428, i431) =>
 bif decide (i431 < (r416.length : Int)) then
 (idx r416 i431).bind fun e453 =>
 (ref06_Small e453).bind fun r463 =>
 (app out428 r463).bind fun xs475 =>
 lett (w64 (i431 + 1)) fun i482 =>
 some (.next (xs475, i482))
 else
 some (.brk out428)
noncomputable def ref10_Put (a0 : List api_Hist) (a1 : api_Hist) : Option (List Int) :=
 lett ((a0.length : Int)) fun nv28 =>
 (bif decide (0 < nv28) then
 (idx a0 (w64 (nv28 - 1))).bind fun e57 =>
 (ref10_Alike e57 a1).bind fun r90 =>
 some r90
 else
 some false).bind fun x40 =>
 bif x40 then
 (idx a0 (w64 (nv28 - 1))).bind fun e130 =>
 (ref10_all a1).bind fun r167 =>
 (ref10_all e130).bind fun r181 =>
 flow (loop (ref10_Put_lp1 r167 r181) ([1], 0)) fun out206 =>
 some out206
 else
 (ref10_number (w64 (a1.Scale + 10)) 5).bind fun r333 =>
 (app [0] r333).bind fun xs345 =>
 (ref10_shape a1.Pos).bind fun r360 =>
 (app xs345 r360).bind fun xs372 =>
 (ref10_shape a1.Neg).bind fun r389 =>
 (app xs372 r389).bind fun xs401 =>
 (ref10_all a1).bind fun r416 =>
 flow (loop (ref10_Put_lp2 r416) (xs401, 0)) fun out435 =>
 some out435

def rep_api_Side : Rep api_Side := Rep.via (Rep.pair Rep.i (Rep.sl Rep.u)) fun d => (d.Offset, d.Counts)
def rep_api_Hist : Rep api_Hist := Rep.via (Rep.pair Rep.i (Rep.pair Rep.u (Rep.pair rep_api_Side rep_api_Side))) fun d => (d.Scale, d.Zero, d.Pos, d.Neg)
def rep_histbits_Row : Rep histbits_Row := Rep.via (Rep.pair Rep.i rep_api_Hist) fun d => (d.n, d.last)
def rep_histbits_shape : Rep histbits_shape := Rep.via (Rep.pair Rep.i (Rep.pair Rep.i (Rep.pair Rep.i (Rep.pair Rep.i Rep.i)))) fun d => (d.scale, d.posAt, d.posSize, d.negAt, d.negSize)
theorem flat_histbits_shape : Flat rep_histbits_shape := Flat.via (Flat.pair Flat.i (Flat.pair Flat.i (Flat.pair Flat.i (Flat.pair Flat.i Flat.i)))) _
def rep_ref09_Pair : Rep ref09_Pair := Rep.via (Rep.pair rep_api_Hist (Rep.pair rep_api_Hist Rep.i)) fun d => (d.X, d.Y, d.E)
def rep_ref10_State : Rep ref10_State := Rep.via (Rep.pair (Rep.sl Rep.i) (Rep.pair Rep.i Rep.i)) fun d => (d.L, d.At, d.E)
def rep_ref10_Got : Rep ref10_Got := Rep.via (Rep.pair rep_api_Hist (Rep.pair Rep.i Rep.i)) fun d => (d.H, d.N, d.E)
end Go.Lg
