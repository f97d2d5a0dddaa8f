/- The plain functions, printed by gen.py. -/
import Derived.Test.YtdpokdaeekanjaaRkLgInl
import Derived.Test.YtdpokdaeekanjaaRkLgBitsP
import Derived.Test.YtdpokdaeekanjaaRkLgHistP
import Derived.Test.YtdpokdaeekanjaaRkLgFoldP
set_option linter.unusedVariables false
namespace Go.Lg
noncomputable def histbits_Row_Put_lp1 (r196 : List UInt64) (r223 : List UInt64) : (List UInt8 × Int × Int) → Option (Rnd (List UInt8 × Int × Int) (List UInt8 × Int) (List UInt8 × Int)) := fun (c246, c249, x250) =>
 bif decide (x250 < (r223.length : Int)) then
 (idx r223 x250).bind fun e273 =>
 (idx r196 x250).bind fun e284 =>
 (vary_PutInt (bitio_Writer.mk c246 c249) (w64 ((e273 - e284).toNat : Int))).bind fun r296 =>
 some (.next (r296.b, r296.n, w64 (x250 + 1)))
 else
 some (.brk (c246, c249))
noncomputable def histbits_Row_Put_lp2 (a2 : api_Hist) : (List UInt8 × Int × Int) → Option (Rnd (List UInt8 × Int × Int) (List UInt8 × Int) (List UInt8 × Int)) := fun (c379, c382, x383) =>
 bif decide (x383 < ([a2.Pos, a2.Neg].length : Int)) then
 ((idx [a2.Pos, a2.Neg] x383).bind fun e414 =>
 (bitio_Writer_Put (bitio_Writer.mk c379 c382) (toU64 (e414.Counts.length : Int)) 8).bind fun (r445, r446) =>
 bif decide (0 < (e414.Counts.length : Int)) then
 (vary_PutInt r446 e414.Offset).bind fun r463 =>
 some (r463.b, r463.n)
 else
 some (r446.b, r446.n) : Option (List UInt8 × Int)).bind fun (c405, c408) =>
 some (.next (c405, c408, w64 (x383 + 1)))
 else
 some (.brk (c379, c382))
noncomputable def histbits_Row_Put_lp3 (r483 : List UInt64) : (List UInt8 × Int × Int) → Option (Rnd (List UInt8 × Int × Int) (List UInt8 × Int) (List UInt8 × Int)) := fun (c506, c509, x510) =>
 bif decide (x510 < (r483.length : Int)) then
 (idx r483 x510).bind fun e531 =>
 (vary_Put (bitio_Writer.mk c506 c509) e531).bind fun r542 =>
 some (.next (r542.b, r542.n, w64 (x510 + 1)))
 else
 some (.brk (c506, c509))
noncomputable def histbits_Row_Put (a0 : histbits_Row) (a1 : bitio_Writer) (a2 : api_Hist) : Option (Int × histbits_Row × bitio_Writer) :=
 (hist_Check a2).bind fun r33 =>
 bif (!decide (r33 = 0)) then
 some (r33, a0, a1)
 else
 ((bif decide (0 < a0.n) then
 (histbits_of a2).bind fun r122 =>
 (histbits_of a0.last).bind fun r139 =>
 some (decide (r122.scale = r139.scale) && (decide (r122.posAt = r139.posAt) && (decide (r122.posSize = r139.posSize) && (decide (r122.negAt = r139.negAt) && (decide (r122.negSize = r139.negSize) && true)))))
 else
 some false).bind fun x88 =>
 bif x88 then
 (bitio_Writer_Put a1 (1 : UInt64) 1).bind fun (r166, r167) =>
 (histbits_counts a0.last).bind fun r196 =>
 (histbits_counts a2).bind fun r223 =>
 (flow (loop (histbits_Row_Put_lp1 r196 r223) (r167.b, r167.n, 0)) fun (c255, c258) =>
 some (c255, c258) : Option (List UInt8 × Int)).bind fun (c236, c239) =>
 some (c236, c239)
 else
 (bitio_Writer_Put a1 (0 : UInt64) 1).bind fun (r318, r319) =>
 (bitio_Writer_Put r319 (toU64 (w64 (a2.Scale - (-10)))) 5).bind fun (r337, r338) =>
 (flow (loop (histbits_Row_Put_lp2 a2) (r338.b, r338.n, 0)) fun (c388, c391) =>
 some (c388, c391) : Option (List UInt8 × Int)).bind fun (c369, c372) =>
 (histbits_counts a2).bind fun r483 =>
 (flow (loop (histbits_Row_Put_lp3 r483) (c369, c372, 0)) fun (c515, c518) =>
 some (c515, c518) : Option (List UInt8 × Int)).bind fun (c496, c499) =>
 some (c496, c499) : Option (List UInt8 × Int)).bind fun (c55, c58) =>
 lett (w64 (a0.n + 1)) fun t559 =>
 (hist_Clone a2).bind fun r572 =>
 some (0, (histbits_Row.mk t559 r572), (bitio_Writer.mk c55 c58))
noncomputable def law10_awake  : Option Bool :=
 (bitio_NewWriter).bind fun r11 =>
 (histbits_NewRow).bind fun r27 =>
 (histbits_Row_Put r27 r11 (api_Hist.mk 0 0 (api_Side.mk 0 []) (api_Side.mk 0 []))).bind fun (r50, r51, r52) =>
 (bif (!decide (r50 = 0)) then
 some true
 else
 (bitio_Writer_Len r52).bind fun r84 =>
 some (!decide (r84 = 24)) : Option Bool).bind fun x77 =>
 (bif x77 then
 some (r52.b, r52.n, r51.n, r51.last.Scale, r51.last.Zero, r51.last.Pos.Offset, r51.last.Pos.Counts, r51.last.Neg.Offset, r51.last.Neg.Counts, true)
 else
 (histbits_Row_Put r51 r52 (api_Hist.mk 0 0 (api_Side.mk 0 []) (api_Side.mk 0 []))).bind fun (r148, r149, r150) =>
 some (r150.b, r150.n, r149.n, r149.last.Scale, r149.last.Zero, r149.last.Pos.Offset, r149.last.Pos.Counts, r149.last.Neg.Offset, r149.last.Neg.Counts, (!decide (r148 = 0))) : Option (List UInt8 × Int × Int × Int × UInt64 × Int × List UInt64 × Int × List UInt64 × Bool)).bind fun (c94, c97, c99, c100, c101, c102, c103, c106, c107, x110) =>
 bif x110 then
 some false
 else
 (bitio_Writer_Len (bitio_Writer.mk c94 c97)).bind fun r198 =>
 (bif decide (r198 = 27) then
 (histbits_Row_Len (histbits_Row.mk c99 (api_Hist.mk c100 c101 (api_Side.mk c102 c103) (api_Side.mk c106 c107)))).bind fun r217 =>
 some (decide (r217 = 2))
 else
 some false : Option Bool).bind fun x207 =>
 (bif x207 then
 (bitio_Writer_Bytes (bitio_Writer.mk c94 c97)).bind fun r237 =>
 some (decide (r237 = [40, 0, 0, 128]))
 else
 some false : Option Bool).bind fun x226 =>
 (bif x226 then
 (histbits_Row_Put (histbits_Row.mk c99 (api_Hist.mk c100 c101 (api_Side.mk c102 c103) (api_Side.mk c106 c107))) (bitio_Writer.mk c94 c97) (api_Hist.mk 99 0 (api_Side.mk 0 []) (api_Side.mk 0 []))).bind fun (r271, r272, r273) =>
 some (decide (r271 = 1))
 else
 some false : Option Bool).bind fun x249 =>
 some x249
noncomputable def histbits_Row_Get_lp1 (r212 : api_Hist) (r247 : List UInt64) : (List UInt64 × List UInt8 × Int × Int × Int × Int × Int) → Option (Rnd (List UInt64 × List UInt8 × Int × Int × Int × Int × Int) (List UInt64 × List UInt8 × Int × Int × Int × Int) (List UInt64 × List UInt8 × Int × Int × Int × Int)) := fun (c483, c488, c491, c492, c493, c495, x496) =>
 bif decide (x496 < (r212.Pos.Counts.length : Int)) then
 (((bif (!decide (c493 = 0)) then
 some (c488, c491, c492, c493, 0)
 else
 (vary_GetInt (bitio_Reader.mk c488 c491 c492)).bind fun (r628, r629, r630) =>
 some (r630.b, r630.n, r630.at_, r629, r628) : Option (List UInt8 × Int × Int × Int × Int)).bind fun (c609, c612, c613, c615, x616) =>
 lett (toU64 x616) fun t650 =>
 some (c609, c612, c613, c615, t650) : Option (List UInt8 × Int × Int × Int × UInt64)).bind fun (c583, c586, c587, c589, x590) =>
 (bif decide (c495 < (r247.length : Int)) then
 (idx r247 c495).bind fun e674 =>
 lett ((x590 + e674)) fun c684 =>
 some c684
 else
 some x590 : Option UInt64).bind fun c651 =>
 lett (w64 (c495 + 1)) fun t687 =>
 some (c583, c586, c587, c589, t687, c651) : Option (List UInt8 × Int × Int × Int × Int × UInt64)).bind fun (c562, c565, c566, c567, c569, x570) =>
 (idx c483 x496).bind fun e694 =>
 (setI c483 x496 x570).bind fun xs709 =>
 some (.next (xs709, c562, c565, c566, c567, c569, w64 (x496 + 1)))
 else
 some (.brk (c483, c488, c491, c492, c493, c495))
noncomputable def histbits_Row_Get_lp2 (r212 : api_Hist) (r247 : List UInt64) : (List UInt64 × List UInt8 × Int × Int × Int × Int × Int) → Option (Rnd (List UInt64 × List UInt8 × Int × Int × Int × Int × Int) (List UInt8 × Int × Int × Int × List UInt64) (List UInt8 × Int × Int × Int × UInt64 × List UInt64 × List UInt64)) := fun (c741, c746, c749, c750, c751, c753, x754) =>
 bif decide (x754 < (r212.Neg.Counts.length : Int)) then
 (((bif (!decide (c751 = 0)) then
 some (c746, c749, c750, c751, 0)
 else
 (vary_GetInt (bitio_Reader.mk c746 c749 c750)).bind fun (r882, r883, r884) =>
 some (r884.b, r884.n, r884.at_, r883, r882) : Option (List UInt8 × Int × Int × Int × Int)).bind fun (c863, c866, c867, c869, x870) =>
 lett (toU64 x870) fun t904 =>
 some (c863, c866, c867, c869, t904) : Option (List UInt8 × Int × Int × Int × UInt64)).bind fun (c836, c839, c840, c842, x843) =>
 (bif decide (c753 < (r247.length : Int)) then
 (idx r247 c753).bind fun e930 =>
 lett ((x843 + e930)) fun c940 =>
 some c940
 else
 some x843 : Option UInt64).bind fun c905 =>
 lett (w64 (c753 + 1)) fun t943 =>
 some (c836, c839, c840, c842, t943, c905) : Option (List UInt8 × Int × Int × Int × Int × UInt64)).bind fun (c814, c817, c818, c819, c821, x822) =>
 (idx c741 x754).bind fun e950 =>
 (setI c741 x754 x822).bind fun xs965 =>
 some (.next (xs965, c814, c817, c818, c819, c821, w64 (x754 + 1)))
 else
 some (.brk (c746, c749, c750, c751, c741))
noncomputable def histbits_Row_Get_lp3 (x1072 : List UInt64) : (List UInt64 × List UInt8 × Int × Int × Int × Int × Int) → Option (Rnd (List UInt64 × List UInt8 × Int × Int × Int × Int × Int) (List UInt64 × List UInt8 × Int × Int × Int × Int) (List UInt64 × List UInt8 × Int × Int × Int × Int)) := fun (c1830, c1835, c1838, c1839, c1840, c1842, x1843) =>
 bif decide (x1843 < (x1072.length : Int)) then
 ((bif (!decide (c1840 = 0)) then
 some (c1835, c1838, c1839, c1840, 0)
 else
 (vary_Get (bitio_Reader.mk c1835 c1838 c1839)).bind fun (r1949, r1950, r1951) =>
 some (r1951.b, r1951.n, r1951.at_, r1950, r1949) : Option (List UInt8 × Int × Int × Int × UInt64)).bind fun (c1930, c1933, c1934, c1936, x1937) =>
 (bif decide (c1842 < (([] : List UInt64).length : Int)) then
 (idx ([] : List UInt64) c1842).bind fun _ => none
 else
 some ()).bind fun (_ : Unit) =>
 lett (w64 (c1842 + 1)) fun t1995 =>
 some (c1930, c1933, c1934, c1936, t1995, x1937) : Option (List UInt8 × Int × Int × Int × Int × UInt64)).bind fun (c1909, c1912, c1913, c1914, c1916, x1917) =>
 (idx c1830 x1843).bind fun e2002 =>
 (setI c1830 x1843 x1917).bind fun xs2017 =>
 some (.next (xs2017, c1909, c1912, c1913, c1914, c1916, w64 (x1843 + 1)))
 else
 some (.brk (c1830, c1835, c1838, c1839, c1840, c1842))
noncomputable def histbits_Row_Get_lp4 (x1366 : List UInt64) : (List UInt64 × List UInt8 × Int × Int × Int × Int × Int) → Option (Rnd (List UInt64 × List UInt8 × Int × Int × Int × Int × Int) (List UInt8 × Int × Int × Int × List UInt64) (List UInt8 × Int × Int × Int × UInt64 × List UInt64 × List UInt64)) := fun (c2048, c2053, c2056, c2057, c2058, c2060, x2061) =>
 bif decide (x2061 < (x1366.length : Int)) then
 ((bif (!decide (c2058 = 0)) then
 some (c2053, c2056, c2057, c2058, 0)
 else
 (vary_Get (bitio_Reader.mk c2053 c2056 c2057)).bind fun (r2162, r2163, r2164) =>
 some (r2164.b, r2164.n, r2164.at_, r2163, r2162) : Option (List UInt8 × Int × Int × Int × UInt64)).bind fun (c2143, c2146, c2147, c2149, x2150) =>
 (bif decide (c2060 < (([] : List UInt64).length : Int)) then
 (idx ([] : List UInt64) c2060).bind fun _ => none
 else
 some ()).bind fun (_ : Unit) =>
 lett (w64 (c2060 + 1)) fun t2209 =>
 some (c2143, c2146, c2147, c2149, t2209, x2150) : Option (List UInt8 × Int × Int × Int × Int × UInt64)).bind fun (c2121, c2124, c2125, c2126, c2128, x2129) =>
 (idx c2048 x2061).bind fun e2216 =>
 (setI c2048 x2061 x2129).bind fun xs2231 =>
 some (.next (xs2231, c2121, c2124, c2125, c2126, c2128, w64 (x2061 + 1)))
 else
 some (.brk (c2053, c2056, c2057, c2058, c2048))
noncomputable def histbits_Row_Get (a0 : histbits_Row) (a1 : bitio_Reader) : Option (api_Hist × Int × histbits_Row × bitio_Reader) :=
 flow ((bif (!decide (0 = 0)) then
 some (a1.b, a1.n, a1.at_, 0, 0)
 else
 (bitio_Reader_Take a1 1).bind fun (r115, r116, r117) =>
 bif (!r116) then
 lett (w64 (r115.toNat : Int)) fun t136 =>
 some (r117.b, r117.n, r117.at_, 2, t136)
 else
 lett (w64 (r115.toNat : Int)) fun t139 =>
 some (r117.b, r117.n, r117.at_, 0, t139) : Option (List UInt8 × Int × Int × Int × Int)).bind fun (c80, c83, c84, c86, x87) =>
 bif decide (x87 = 1) then
 bif decide (a0.n = 0) then
 outs (some ((api_Hist.mk 0 0 (api_Side.mk 0 []) (api_Side.mk 0 [])), 3, a0, a1))
 else
 (hist_Clone a0.last).bind fun r212 =>
 (histbits_counts a0.last).bind fun r247 =>
 ((((bif (!decide (c86 = 0)) then
 some (c80, c83, c84, c86, 0)
 else
 (vary_GetInt (bitio_Reader.mk c80 c83 c84)).bind fun (r392, r393, r394) =>
 some (r394.b, r394.n, r394.at_, r393, r392) : Option (List UInt8 × Int × Int × Int × Int)).bind fun (c343, c346, c347, c349, x350) =>
 lett (toU64 x350) fun t414 =>
 some (c343, c346, c347, c349, t414) : Option (List UInt8 × Int × Int × Int × UInt64)).bind fun (c321, c324, c325, c327, x328) =>
 (bif decide (0 < (r247.length : Int)) then
 (idx r247 0).bind fun e429 =>
 lett ((x328 + e429)) fun c439 =>
 some c439
 else
 some x328 : Option UInt64).bind fun c415 =>
 lett (w64 (0 + 1)) fun t441 =>
 some (c321, c324, c325, c327, t441, c415) : Option (List UInt8 × Int × Int × Int × Int × UInt64)).bind fun (c304, c307, c308, c309, c311, x312) =>
 (flow (loop (histbits_Row_Get_lp1 r212 r247) (r212.Pos.Counts, c304, c307, c308, c309, c311, 0)) fun (c500, c505, c508, c509, c510, c512) =>
 some (c500, c505, c508, c509, c510, c512) : Option (List UInt64 × List UInt8 × Int × Int × Int × Int)).bind fun (c465, c470, c473, c474, c475, c477) =>
 flow (loop (histbits_Row_Get_lp2 r212 r247) (r212.Neg.Counts, c470, c473, c474, c475, c477, 0)) fun (c759, c762, c763, c765, c766) =>
 some (c759, c762, c763, c765, x312, c465, c766) : Option (List UInt8 × Int × Int × Int × UInt64 × List UInt64 × List UInt64)).bind fun (c260, c263, c264, c266, c268, c269, c272) =>
 some (.go (c260, c263, c264, c266, r212.Scale, c268, r212.Pos.Offset, c269, r212.Neg.Offset, c272))
 else
 (bif (!decide (c86 = 0)) then
 some (c80, c83, c84, c86, 0)
 else
 (bitio_Reader_Take (bitio_Reader.mk c80 c83 c84) 5).bind fun (r1029, r1030, r1031) =>
 bif (!r1030) then
 lett (w64 (r1029.toNat : Int)) fun t1050 =>
 some (r1031.b, r1031.n, r1031.at_, 2, t1050)
 else
 lett (w64 (r1029.toNat : Int)) fun t1053 =>
 some (r1031.b, r1031.n, r1031.at_, c86, t1053) : Option (List UInt8 × Int × Int × Int × Int)).bind fun (c1015, c1018, c1019, c1021, x1022) =>
 lett (w64 (x1022 + (-10))) fun t1055 =>
 ((bif (!decide (c1021 = 0)) then
 some (c1015, c1018, c1019, c1021, 0)
 else
 (bitio_Reader_Take (bitio_Reader.mk c1015 c1018 c1019) 8).bind fun (r1110, r1111, r1112) =>
 bif (!r1111) then
 lett (w64 (r1110.toNat : Int)) fun t1131 =>
 some (r1112.b, r1112.n, r1112.at_, 2, t1131)
 else
 lett (w64 (r1110.toNat : Int)) fun t1134 =>
 some (r1112.b, r1112.n, r1112.at_, c1021, t1134) : Option (List UInt8 × Int × Int × Int × Int)).bind fun (c1087, c1090, c1091, c1092, x1093) =>
 (bif ((decide (c1092 = 0)) && (decide (160 < x1093))) then
 some 4
 else
 some c1092 : Option Int).bind fun c1137 =>
 bif ((!decide (c1137 = 0)) || (decide (x1093 = 0))) then
 some (c1087, c1090, c1091, c1137, 0, [])
 else
 ((bif (!decide (c1137 = 0)) then
 some (c1087, c1090, c1091, c1137, 0)
 else
 (vary_GetInt (bitio_Reader.mk c1087 c1090 c1091)).bind fun (r1210, r1211, r1212) =>
 some (r1212.b, r1212.n, r1212.at_, r1211, r1210) : Option (List UInt8 × Int × Int × Int × Int)).bind fun (c1187, c1190, c1191, c1193, x1194) =>
 (mk x1093 (0 : UInt64)).bind fun t1232 =>
 some (x1194, t1232, c1187, c1190, c1191, c1193)).bind fun (x1168, x1169, c1173, c1176, c1177, c1179) =>
 some (c1173, c1176, c1177, c1179, x1168, x1169) : Option (List UInt8 × Int × Int × Int × Int × List UInt64)).bind fun (c1064, c1067, c1068, c1070, x1071, x1072) =>
 ((bif (!decide (c1070 = 0)) then
 some (c1064, c1067, c1068, c1070, 0)
 else
 (bitio_Reader_Take (bitio_Reader.mk c1064 c1067 c1068) 8).bind fun (r1404, r1405, r1406) =>
 bif (!r1405) then
 lett (w64 (r1404.toNat : Int)) fun t1425 =>
 some (r1406.b, r1406.n, r1406.at_, 2, t1425)
 else
 lett (w64 (r1404.toNat : Int)) fun t1428 =>
 some (r1406.b, r1406.n, r1406.at_, c1070, t1428) : Option (List UInt8 × Int × Int × Int × Int)).bind fun (c1381, c1384, c1385, c1386, x1387) =>
 (bif ((decide (c1386 = 0)) && (decide (160 < x1387))) then
 some 4
 else
 some c1386 : Option Int).bind fun c1431 =>
 bif ((!decide (c1431 = 0)) || (decide (x1387 = 0))) then
 some (c1381, c1384, c1385, c1431, 0, [])
 else
 ((bif (!decide (c1431 = 0)) then
 some (c1381, c1384, c1385, c1431, 0)
 else
 (vary_GetInt (bitio_Reader.mk c1381 c1384 c1385)).bind fun (r1504, r1505, r1506) =>
 some (r1506.b, r1506.n, r1506.at_, r1505, r1504) : Option (List UInt8 × Int × Int × Int × Int)).bind fun (c1481, c1484, c1485, c1487, x1488) =>
 (mk x1387 (0 : UInt64)).bind fun t1526 =>
 some (x1488, t1526, c1481, c1484, c1485, c1487)).bind fun (x1462, x1463, c1467, c1470, c1471, c1473) =>
 some (c1467, c1470, c1471, c1473, x1462, x1463) : Option (List UInt8 × Int × Int × Int × Int × List UInt64)).bind fun (c1358, c1361, c1362, c1364, x1365, x1366) =>
 (((bif (!decide (c1364 = 0)) then
 some (c1358, c1361, c1362, c1364, 0)
 else
 (vary_Get (bitio_Reader.mk c1358 c1361 c1362)).bind fun (r1748, r1749, r1750) =>
 some (r1750.b, r1750.n, r1750.at_, r1749, r1748) : Option (List UInt8 × Int × Int × Int × UInt64)).bind fun (c1709, c1712, c1713, c1715, x1716) =>
 (bif decide (0 < (([] : List UInt64).length : Int)) then
 (idx ([] : List UInt64) 0).bind fun _ => none
 else
 some ()).bind fun (_ : Unit) =>
 lett (w64 (0 + 1)) fun t1788 =>
 some (c1709, c1712, c1713, c1715, t1788, x1716) : Option (List UInt8 × Int × Int × Int × Int × UInt64)).bind fun (c1692, c1695, c1696, c1697, c1699, x1700) =>
 (flow (loop (histbits_Row_Get_lp3 x1072) (x1072, c1692, c1695, c1696, c1697, c1699, 0)) fun (c1847, c1852, c1855, c1856, c1857, c1859) =>
 some (c1847, c1852, c1855, c1856, c1857, c1859) : Option (List UInt64 × List UInt8 × Int × Int × Int × Int)).bind fun (c1812, c1817, c1820, c1821, c1822, c1824) =>
 flow (loop (histbits_Row_Get_lp4 x1366) (x1366, c1817, c1820, c1821, c1822, c1824, 0)) fun (c2066, c2069, c2070, c2072, c2073) =>
 some (c2066, c2069, c2070, c2072, x1700, c1812, c2073) : Option (List UInt8 × Int × Int × Int × UInt64 × List UInt64 × List UInt64)).bind fun (c1652, c1655, c1656, c1658, c1660, c1661, c1664) =>
 (bif decide (c1658 = 0) then
 (hist_Check (api_Hist.mk t1055 c1660 (api_Side.mk x1071 c1661) (api_Side.mk x1365 c1664))).bind fun r2286 =>
 some r2286
 else
 some c1658 : Option Int).bind fun c2264 =>
 (bif ((decide (c2264 = 0)) && (decide (0 < a0.n))) then
 (histbits_of (api_Hist.mk t1055 c1660 (api_Side.mk x1071 c1661) (api_Side.mk x1365 c1664))).bind fun r2424 =>
 (histbits_of a0.last).bind fun r2469 =>
 some (decide (r2424.scale = r2469.scale) && (decide (r2424.posAt = r2469.posAt) && (decide (r2424.posSize = r2469.posSize) && (decide (r2424.negAt = r2469.negAt) && (decide (r2424.negSize = r2469.negSize) && true)))))
 else
 some false).bind fun x2376 =>
 bif x2376 then
 some (.go (c1652, c1655, c1656, 3, t1055, c1660, x1071, c1661, x1365, c1664))
 else
 some (.go (c1652, c1655, c1656, c2264, t1055, c1660, x1071, c1661, x1365, c1664)) : Option (Flow (List UInt8 × Int × Int × Int × Int × UInt64 × Int × List UInt64 × Int × List UInt64) (api_Hist × Int × histbits_Row × bitio_Reader))) fun (c55, c58, c59, c61, c63, c64, c65, c66, c69, c70) =>
 (bif decide (c61 = 0) then
 (hist_Check (api_Hist.mk c63 c64 (api_Side.mk c65 c66) (api_Side.mk c69 c70))).bind fun r2590 =>
 some r2590
 else
 some c61 : Option Int).bind fun c2567 =>
 bif (!decide (c2567 = 0)) then
 some ((api_Hist.mk 0 0 (api_Side.mk 0 []) (api_Side.mk 0 [])), c2567, a0, a1)
 else
 (bitio_Reader_At (bitio_Reader.mk c55 c58 c59)).bind fun r2705 =>
 (bitio_Reader_At a1).bind fun r2731 =>
 (bitio_Reader_Skip a1 (w64 (r2705 - r2731))).bind fun (r2742, r2743) =>
 lett (w64 (a0.n + 1)) fun t2769 =>
 (hist_Clone (api_Hist.mk c63 c64 (api_Side.mk c65 c66) (api_Side.mk c69 c70))).bind fun r2788 =>
 some ((api_Hist.mk c63 c64 (api_Side.mk c65 c66) (api_Side.mk c69 c70)), 0, (histbits_Row.mk t2769 r2788), r2743)
noncomputable def law10_HistbitsRows_lp1 (a0 : List api_Hist) (a1 : api_Hist) : (List UInt8 × Int × Int × Int × UInt64 × Int × List UInt64 × Int × List UInt64 × List Int × List api_Hist × Int) → Option (Rnd (List UInt8 × Int × Int × Int × UInt64 × Int × List UInt64 × Int × List UInt64 × List Int × List api_Hist × Int) (List UInt8 × Int × List Int × List api_Hist) (Flow (List UInt8 × Int × List Int × List api_Hist) Bool)) := fun (c129, c132, c134, c135, c136, c137, c138, c141, c142, bits145, row148, i151) =>
 bif decide (i151 < (a0.length : Int)) then
 flow ((histbits_Row_Clone (histbits_Row.mk c134 (api_Hist.mk c135 c136 (api_Side.mk c137 c138) (api_Side.mk c141 c142)))).bind fun r232 =>
 (bitio_NewWriter).bind fun r270 =>
 (histbits_Row_Put r232 r270 a1).bind fun (r312, r313, r314) =>
 (idx a0 i151).bind fun e339 =>
 (histbits_Row_Put (histbits_Row.mk c134 (api_Hist.mk c135 c136 (api_Side.mk c137 c138) (api_Side.mk c141 c142))) (bitio_Writer.mk c129 c132) e339).bind fun (r379, r380, r381) =>
 (idx a0 i151).bind fun e406 =>
 (ref08_Check e406).bind fun r423 =>
 bif (!decide (r379 = r423)) then
 outs (outr (outs (some false)))
 else
 (bif decide (r379 = 0) then
 (idx a0 i151).bind fun e446 =>
 (ref10_Put row148 e446).bind fun r469 =>
 (app bits145 r469).bind fun xs481 =>
 (idx a0 i151).bind fun e494 =>
 (app row148 [e494]).bind fun xs525 =>
 some (xs481, xs525)
 else
 some (bits145, row148) : Option (List Int × List api_Hist)).bind fun (bits434, row437) =>
 (bitio_Writer_Len r381).bind fun r568 =>
 (bif (!decide (r568 = (bits434.length : Int))) then
 some true
 else
 (histbits_Row_Len r380).bind fun r594 =>
 some (!decide (r594 = (row437.length : Int))) : Option Bool).bind fun x578 =>
 bif x578 then
 outs (outr (outs (some false)))
 else
 some (.go (r381.b, r381.n, r380.n, r380.last.Scale, r380.last.Zero, r380.last.Pos.Offset, r380.last.Pos.Counts, r380.last.Neg.Offset, r380.last.Neg.Counts, bits434, row437)) : Option (Flow (List UInt8 × Int × Int × Int × UInt64 × Int × List UInt64 × Int × List UInt64 × List Int × List api_Hist) (Rnd (List UInt8 × Int × Int × Int × UInt64 × Int × List UInt64 × Int × List UInt64 × List Int × List api_Hist × Int) (List UInt8 × Int × List Int × List api_Hist) (Flow (List UInt8 × Int × List Int × List api_Hist) Bool)))) fun (c205, c208, c210, c211, c212, c213, c214, c217, c218, bits221, row224) =>
 lett (w64 (i151 + 1)) fun i671 =>
 some (.next (c205, c208, c210, c211, c212, c213, c214, c217, c218, bits221, row224, i671))
 else
 some (.brk (c129, c132, bits145, row148))
noncomputable def law10_HistbitsRows_lp3 : (List UInt64 × Int) → Option (Rnd (List UInt64 × Int) Unit Unit) := fun (c1085, k1088) =>
 bif decide (k1088 < (c1085.length : Int)) then
 (idx c1085 k1088).bind fun e1111 =>
 (setI c1085 k1088 77).bind fun xs1121 =>
 lett (w64 (k1088 + 1)) fun k1125 =>
 some (.next (xs1121, k1125))
 else
 some (.brk ())
noncomputable def law10_HistbitsRows_lp2 (row120 : List api_Hist) : (Int × Int × UInt64 × Int × List UInt64 × Int × List UInt64 × List UInt8 × Int × Int × Int) → Option (Rnd (Int × Int × UInt64 × Int × List UInt64 × Int × List UInt64 × List UInt8 × Int × Int × Int) (List UInt8 × Int × Int) (Flow (List UInt8 × Int × Int) Bool)) := fun (c885, c886, c887, c888, c889, c892, c893, c897, c900, c901, i902) =>
 bif decide (i902 < (row120.length : Int)) then
 (histbits_Row_Get (histbits_Row.mk c885 (api_Hist.mk c886 c887 (api_Side.mk c888 c889) (api_Side.mk c892 c893))) (bitio_Reader.mk c897 c900 c901)).bind fun (r946, r947, r948, r949) =>
 (bif (!decide (r947 = 0)) then
 some true
 else
 (idx row120 i902).bind fun e1034 =>
 (ref08_Same r946 e1034).bind fun r1063 =>
 some (!r1063)).bind fun x1012 =>
 bif x1012 then
 outr (outs (some false))
 else
 (flow (loop (law10_HistbitsRows_lp3) (r946.Pos.Counts, 0)) fun (_ : Unit) =>
 some ()).bind fun (_ : Unit) =>
 lett (w64 (i902 + 1)) fun i1126 =>
 some (.next (r948.n, r948.last.Scale, r948.last.Zero, r948.last.Pos.Offset, r948.last.Pos.Counts, r948.last.Neg.Offset, r948.last.Neg.Counts, r949.b, r949.n, r949.at_, i1126))
 else
 some (.brk (c897, c900, c901))
noncomputable def law10_HistbitsRows (a0 : List api_Hist) (a1 : api_Hist) : Option Bool :=
 (law10_awake).bind fun r27 =>
 bif (!r27) then
 some false
 else
 (law10_some a0).bind fun r40 =>
 (bif (!r40) then
 some true
 else
 (ref08_Light a1).bind fun r64 =>
 some (!r64) : Option Bool).bind fun x49 =>
 bif x49 then
 some true
 else
 (bitio_NewWriter).bind fun r75 =>
 (histbits_NewRow).bind fun r91 =>
 flow (flow (loop (law10_HistbitsRows_lp1 a0 a1) (r75.b, r75.n, r91.n, r91.last.Scale, r91.last.Zero, r91.last.Pos.Offset, r91.last.Pos.Counts, r91.last.Neg.Offset, r91.last.Neg.Counts, [], [], 0)) fun (c156, c159, bits160, row163) =>
 some (.go (c156, c159, bits160, row163)) : Option (Flow (List UInt8 × Int × List Int × List api_Hist) Bool)) fun (c113, c116, bits117, row120) =>
 (bitio_Writer_Bytes (bitio_Writer.mk c113 c116)).bind fun r763 =>
 (ref01_Bytes bits117).bind fun r781 =>
 bif (!decide (r763 = r781)) then
 some false
 else
 (bitio_Writer_Bytes (bitio_Writer.mk c113 c116)).bind fun r806 =>
 (bitio_Writer_Len (bitio_Writer.mk c113 c116)).bind fun r820 =>
 (bitio_NewReader r806 r820).bind fun (r830, r831) =>
 bif r830.isNone then
 some false
 else
 (histbits_NewRow).bind fun r844 =>
 flow ((r830).bind fun d877 =>
 flow (loop (law10_HistbitsRows_lp2 row120) (r844.n, r844.last.Scale, r844.last.Zero, r844.last.Pos.Offset, r844.last.Pos.Counts, r844.last.Neg.Offset, r844.last.Neg.Counts, d877.b, d877.n, d877.at_, 0)) fun (c907, c910, c911) =>
 some (.go (c907, c910, c911)) : Option (Flow (List UInt8 × Int × Int) Bool)) fun (c867, c870, c871) =>
 (bitio_Reader_Left (bitio_Reader.mk c867 c870 c871)).bind fun r1156 =>
 lett (decide (r1156 = 0)) fun t1165 =>
 some t1165
end Go.Lg
