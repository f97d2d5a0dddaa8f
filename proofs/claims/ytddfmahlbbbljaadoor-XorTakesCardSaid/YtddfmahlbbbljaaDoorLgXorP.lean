/- The plain functions, printed by gen.py. -/
import Derived.Test.YtddfmahlbbbljaaDoorLgInl
import Derived.Test.YtddfmahlbbbljaaDoorLgBitsP
set_option linter.unusedVariables false
namespace Go.Lg
structure xor_window where
  ahead : Int
  size : Int
  deriving DecidableEq
structure xor_Row where
  n : Int
  last : UInt64
  win : xor_window
  deriving DecidableEq
structure ref07_Window where
  From : Int
  Size : Int
  deriving DecidableEq
structure ref07_State where
  L : List UInt64
  W : ref07_Window
  deriving DecidableEq
structure ref07_Got where
  V : UInt64
  N : Int
  S : ref07_State
  E : Int
  deriving DecidableEq
def lit_c95356610d : List UInt8 := [0, 1, 2, 2, 3, 3, 3, 3, 4, 4, 4, 4, 4, 4, 4, 4, 5, 5, 5, 5, 5, 5, 5, 5, 5, 5, 5, 5, 5, 5, 5, 5, 6, 6, 6, 6, 6, 6, 6, 6, 6, 6, 6, 6, 6, 6, 6, 6, 6, 6, 6, 6, 6, 6, 6, 6, 6, 6, 6, 6, 6, 6, 6, 6, 7, 7, 7, 7, 7, 7, 7, 7, 7, 7, 7, 7, 7, 7, 7, 7, 7, 7, 7, 7, 7, 7, 7, 7, 7, 7, 7, 7, 7, 7, 7, 7, 7, 7, 7, 7, 7, 7, 7, 7, 7, 7, 7, 7, 7, 7, 7, 7, 7, 7, 7, 7, 7, 7, 7, 7, 7, 7, 7, 7, 7, 7, 7, 7, 8, 8, 8, 8, 8, 8, 8, 8, 8, 8, 8, 8, 8, 8, 8, 8, 8, 8, 8, 8, 8, 8, 8, 8, 8, 8, 8, 8, 8, 8, 8, 8, 8, 8, 8, 8, 8, 8, 8, 8, 8, 8, 8, 8, 8, 8, 8, 8, 8, 8, 8, 8, 8, 8, 8, 8, 8, 8, 8, 8, 8, 8, 8, 8, 8, 8, 8, 8, 8, 8, 8, 8, 8, 8, 8, 8, 8, 8, 8, 8, 8, 8, 8, 8, 8, 8, 8, 8, 8, 8, 8, 8, 8, 8, 8, 8, 8, 8, 8, 8, 8, 8, 8, 8, 8, 8, 8, 8, 8, 8, 8, 8, 8, 8, 8, 8, 8, 8, 8, 8, 8, 8, 8, 8, 8, 8, 8, 8]

def gdat1 : List UInt8 := [0, 1, 56, 2, 57, 49, 28, 3, 61, 58, 42, 50, 38, 29, 17, 4, 62, 47, 59, 36, 45, 43, 51, 22, 53, 39, 33, 30, 24, 18, 12, 5, 63, 55, 48, 27, 60, 41, 37, 16, 46, 35, 44, 21, 52, 32, 23, 11, 54, 26, 40, 15, 34, 20, 31, 10, 25, 14, 19, 9, 13, 8, 7, 6]

noncomputable def xor_NewRow  : Option xor_Row :=
 some (xor_Row.mk 0 0 (xor_window.mk 0 0))

noncomputable def xor_window_behind (a0 : xor_window) : Option Int :=
 lett (w64 ((w64 (64 - a0.ahead)) - a0.size)) fun t16 =>
 some t16

noncomputable def math_bits_Len64 (a0 : UInt64) : Option Int :=
 (bif decide (4294967296 ≤ a0) then
 lett (shrU a0 ((32 : UInt64).toNat)) fun x16 =>
 some (x16, 32)
 else
 some (a0, 0) : Option (UInt64 × Int)).bind fun (x11, nv12) =>
 (bif decide (65536 ≤ x11) then
 lett (shrU x11 ((16 : UInt64).toNat)) fun x22 =>
 lett (w64 (nv12 + 16)) fun nv23 =>
 some (x22, nv23)
 else
 some (x11, nv12) : Option (UInt64 × Int)).bind fun (x17, nv18) =>
 (bif decide (256 ≤ x17) then
 lett (shrU x17 ((8 : UInt64).toNat)) fun x29 =>
 lett (w64 (nv18 + 8)) fun nv30 =>
 some (x29, nv30)
 else
 some (x17, nv18) : Option (UInt64 × Int)).bind fun (x24, nv25) =>
 (idx lit_c95356610d (x24.toUInt8.toNat : Int)).bind fun c31 =>
 lett (w64 (nv25 + (c31.toNat : Int))) fun nv32 =>
 some nv32

noncomputable def math_bits_LeadingZeros64 (a0 : UInt64) : Option Int :=
 (math_bits_Len64 a0).bind fun r11 =>
 lett (w64 (64 - r11)) fun t20 =>
 some t20

noncomputable def math_bits_TrailingZeros64 (a0 : UInt64) : Option Int :=
 bif decide (a0 = 0) then
 some 64
 else
 (idx gdat1 ((shrU ((a0 &&& ((0 : UInt64) - a0)) * 285870213051353865) ((58 : UInt64).toNat)).toNat : Int)).bind fun e14 =>
 lett ((e14.toNat : Int)) fun t20 =>
 some t20

noncomputable def xor_window_holds (a0 : xor_window) (a1 : UInt64) : Option Bool :=
 (bif (!(decide (a0.ahead = (0 : Int)) && (decide (a0.size = (0 : Int)) && true))) then
 (math_bits_LeadingZeros64 a1).bind fun r56 =>
 some (decide (a0.ahead ≤ r56))
 else
 some false).bind fun x37 =>
 (bif x37 then
 (math_bits_TrailingZeros64 a1).bind fun r97 =>
 (xor_window_behind a0).bind fun r106 =>
 some (decide (r106 ≤ r97))
 else
 some false).bind fun x77 =>
 some x77

noncomputable def xor_around (a0 : UInt64) : Option xor_window :=
 (math_bits_LeadingZeros64 a0).bind fun r17 =>
 lett ((min r17 31)) fun ahead26 =>
 (math_bits_TrailingZeros64 a0).bind fun r29 =>
 some (xor_window.mk ahead26 (w64 ((w64 (64 - ahead26)) - r29)))

noncomputable def xor_Row_Put (a0 : xor_Row) (a1 : bitio_Writer) (a2 : UInt64) : Option (xor_Row × bitio_Writer) :=
 lett ((a2 ^^^ a0.last)) fun d16 =>
 (lett (decide (a0.n = 0)) fun t30 =>
 bif t30 then
 (bitio_Writer_Put a1 a2 64).bind fun (r32, r33) =>
 some (a0.win.ahead, a0.win.size, r33.b, r33.n)
 else
 lett (decide (d16 = 0)) fun t48 =>
 bif t48 then
 (bitio_Writer_Put a1 (0 : UInt64) 1).bind fun (r50, r51) =>
 some (a0.win.ahead, a0.win.size, r51.b, r51.n)
 else
 (xor_window_holds a0.win d16).bind fun r66 =>
 bif r66 then
 (bitio_Writer_Put a1 (2 : UInt64) 2).bind fun (r78, r79) =>
 (xor_window_behind a0.win).bind fun r136 =>
 (bitio_Writer_Put r79 (shrU d16 ((toU64 r136).toNat)) a0.win.size).bind fun (r155, r156) =>
 some (a0.win.ahead, a0.win.size, r156.b, r156.n)
 else
 (xor_around d16).bind fun r176 =>
 (bitio_Writer_Put a1 (3 : UInt64) 2).bind fun (r196, r197) =>
 (bitio_Writer_Put r197 (toU64 r176.ahead) 5).bind fun (r212, r213) =>
 (bitio_Writer_Put r213 (toU64 (w64 (r176.size - 1))) 6).bind fun (r228, r229) =>
 (xor_window_behind r176).bind fun r284 =>
 (bitio_Writer_Put r229 (shrU d16 ((toU64 r284).toNat)) r176.size).bind fun (r303, r304) =>
 some (r176.ahead, r176.size, r304.b, r304.n) : Option (Int × Int × List UInt8 × Int)).bind fun (c18, c19, c21, c24) =>
 lett (w64 (a0.n + 1)) fun t322 =>
 some ((xor_Row.mk t322 a2 (xor_window.mk c18 c19)), (bitio_Writer.mk c21 c24))

noncomputable def xor_Cost_lp1 (a0 : List UInt64) : (List UInt8 × Int × Int × UInt64 × Int × Int × Int) → Option (Rnd (List UInt8 × Int × Int × UInt64 × Int × Int × Int) (List UInt8 × Int) Int) := fun (c45, c48, c50, c51, c52, c53, x54) =>
 bif decide (x54 < (a0.length : Int)) then
 (idx a0 x54).bind fun e80 =>
 (xor_Row_Put (xor_Row.mk c50 c51 (xor_window.mk c52 c53)) (bitio_Writer.mk c45 c48) e80).bind fun (r99, r100) =>
 some (.next (r100.b, r100.n, r99.n, r99.last, r99.win.ahead, r99.win.size, w64 (x54 + 1)))
 else
 some (.brk (c45, c48))

noncomputable def xor_Cost (a0 : List UInt64) : Option Int :=
 (bitio_NewWriter).bind fun r14 =>
 (xor_NewRow).bind fun r30 =>
 flow (loop (xor_Cost_lp1 a0) (r14.b, r14.n, r30.n, r30.last, r30.win.ahead, r30.win.size, 0)) fun (c59, c62) =>
 (bitio_Writer_Len (bitio_Writer.mk c59 c62)).bind fun r120 =>
 some r120

noncomputable def xor_Row_Len (a0 : xor_Row) : Option Int :=
 some a0.n

noncomputable def law07_awake  : Option Bool :=
 (bitio_NewWriter).bind fun r13 =>
 (xor_NewRow).bind fun r29 =>
 (xor_Row_Put r29 r13 (4607182418800017408 : UInt64)).bind fun (r47, r48) =>
 (xor_Row_Put r47 r48 (4607182418800017408 : UInt64)).bind fun (r66, r67) =>
 (xor_Row_Put r66 r67 (4611686018427387904 : UInt64)).bind fun (r85, r86) =>
 (bitio_Writer_Len r86).bind fun r102 =>
 (bif decide (r102 = 89) then
 (xor_Row_Len r85).bind fun r119 =>
 some (decide (r119 = 3))
 else
 some false : Option Bool).bind fun x111 =>
 (bif x111 then
 (xor_Cost [1, 1]).bind fun r148 =>
 some (decide (r148 = 65))
 else
 some false : Option Bool).bind fun x128 =>
 some x128

noncomputable def law07_XorSame_lp1 (a1 : UInt64) (a2 : Int) : (List UInt64 × Int) → Option (Rnd (List UInt64 × Int) (List UInt64) (List UInt64)) := fun (same38, i41) =>
 bif decide (i41 < a2) then
 (app same38 [a1]).bind fun xs63 =>
 lett (w64 (i41 + 1)) fun i70 =>
 some (.next (xs63, i70))
 else
 some (.brk same38)

noncomputable def law07_XorSame (a0 : List UInt64) (a1 : UInt64) (a2 : Int) : Option Bool :=
 (law07_awake).bind fun r14 =>
 bif (!r14) then
 some false
 else
 bif (((decide (300 < (a0.length : Int))) || (decide (a2 < 0))) || (decide (300 < a2))) then
 some true
 else
 (flow (loop (law07_XorSame_lp1 a1 a2) ([], 0)) fun same45 =>
 some same45 : Option (List UInt64)).bind fun same30 =>
 (xor_Cost same30).bind fun r81 =>
 bif (((decide (0 < a2)) && (!decide (r81 = w64 (63 + a2)))) || ((decide (a2 = 0)) && (!decide (r81 = 0)))) then
 some false
 else
 (xor_Cost a0).bind fun r99 =>
 lett (((decide (r99 ≤ w64 (77 * (a0.length : Int)))) && ((decide ((a0.length : Int) = 0)) || (decide (w64 (63 + (a0.length : Int)) ≤ r99))))) fun t111 =>
 some t111

noncomputable def ref07_with (a0 : ref07_State) (a1 : UInt64) (a2 : ref07_Window) : Option ref07_State :=
 (app [] a0.L).bind fun xs33 =>
 (app xs33 [a1]).bind fun xs63 =>
 some (ref07_State.mk xs63 a2)

noncomputable def ref07_last (a0 : ref07_State) : Option UInt64 :=
 bif decide ((a0.L.length : Int) = 0) then
 some 0
 else
 (idx a0.L (w64 ((a0.L.length : Int) - 1))).bind fun e24 =>
 some e24

noncomputable def ref07_row (a0 : UInt64) : Option (List Int) :=
 (ref01_Row a0 64).bind fun (r11, r12) =>
 some r11

noncomputable def ref07_in_lp1 (a0 : List Int) (a1 : ref07_Window) : Int → Option (Rnd Int Unit Bool) := fun i17 =>
 bif decide (i17 < 64) then
 (idx a0 i17).bind fun e25 =>
 bif ((decide (e25 = 1)) && ((decide (i17 < a1.From)) || (decide (w64 (a1.From + a1.Size) ≤ i17)))) then
 outr (some false)
 else
 lett (w64 (i17 + 1)) fun i42 =>
 some (.next i42)
 else
 some (.brk ())

noncomputable def ref07_in (a0 : List Int) (a1 : ref07_Window) : Option Bool :=
 flow (loop (ref07_in_lp1 a0 a1) 0) fun (_ : Unit) =>
 lett (decide (0 < a1.Size)) fun t43 =>
 some t43

noncomputable def ref07_around_lp1 (a0 : List Int) : Int → Option (Rnd Int Int Int) := fun from20 =>
 (bif decide (from20 < 31) then
 (idx a0 from20).bind fun e32 =>
 some (decide (e32 = 0))
 else
 some false : Option Bool).bind fun x28 =>
 bif x28 then
 lett (w64 (from20 + 1)) fun from46 =>
 some (.next from46)
 else
 some (.brk from20)

noncomputable def ref07_around_lp2 (a0 : List Int) (from17 : Int) : Int → Option (Rnd Int Int Int) := fun end50 =>
 (bif decide (from17 < end50) then
 (idx a0 (w64 (end50 - 1))).bind fun e62 =>
 some (decide (e62 = 0))
 else
 some false : Option Bool).bind fun x58 =>
 bif x58 then
 lett (w64 (end50 - 1)) fun end76 =>
 some (.next end76)
 else
 some (.brk end50)

noncomputable def ref07_around (a0 : List Int) : Option ref07_Window :=
 (flow (loop (ref07_around_lp1 a0) 0) fun from21 =>
 some from21 : Option Int).bind fun from17 =>
 (flow (loop (ref07_around_lp2 a0 from17) 64) fun end51 =>
 some end51 : Option Int).bind fun end47 =>
 some (ref07_Window.mk from17 (w64 (end47 - from17)))

noncomputable def ref07_Put (a0 : ref07_State) (a1 : UInt64) : Option (List Int × ref07_State) :=
 bif decide ((a0.L.length : Int) = 0) then
 (ref07_row a1).bind fun r51 =>
 (ref07_with a0 a1 a0.W).bind fun r65 =>
 some (r51, r65)
 else
 (ref07_last a0).bind fun r99 =>
 (ref07_row (a1 ^^^ r99)).bind fun r108 =>
 (ref07_last a0).bind fun r124 =>
 bif decide (a1 = r124) then
 (ref07_with a0 a1 a0.W).bind fun r143 =>
 some ([0], r143)
 else
 (ref07_in r108 a0.W).bind fun r178 =>
 bif r178 then
 (slc r108 a0.W.From (w64 (a0.W.From + a0.W.Size))).bind fun t232 =>
 (app [1, 0] t232).bind fun xs269 =>
 (ref07_with a0 a1 a0.W).bind fun r282 =>
 some (xs269, r282)
 else
 (ref07_around r108).bind fun r323 =>
 (ref01_Row (toU64 r323.From) 5).bind fun (r340, r341) =>
 (ref01_Row (toU64 (w64 (r323.Size - 1))) 6).bind fun (r354, r355) =>
 (app [1, 1] r340).bind fun xs372 =>
 (app xs372 r354).bind fun xs380 =>
 (slc r108 r323.From (w64 (r323.From + r323.Size))).bind fun t435 =>
 (app xs380 t435).bind fun xs482 =>
 (ref07_with a0 a1 r323).bind fun r503 =>
 some (xs482, r503)

noncomputable def ref07_placed_lp1 (a0 : List Int) (a1 : ref07_Window) : (List Int × Int) → Option (Rnd (List Int × Int) (List Int) UInt64) := fun (all17, i20) =>
 bif decide (i20 < 64) then
 ((bif ((decide (a1.From ≤ i20)) && (decide (i20 < w64 (a1.From + a1.Size)))) then
 (idx a0 (w64 (i20 - a1.From))).bind fun e51 =>
 some e51
 else
 some 0 : Option Int).bind fun bit45 =>
 (app all17 [bit45]).bind fun xs70 =>
 some xs70 : Option (List Int)).bind fun all37 =>
 lett (w64 (i20 + 1)) fun i80 =>
 some (.next (all37, i80))
 else
 some (.brk all17)

noncomputable def ref07_placed (a0 : List Int) (a1 : ref07_Window) : Option UInt64 :=
 flow (loop (ref07_placed_lp1 a0 a1) ([], 0)) fun all24 =>
 (ref01_Number all24).bind fun r87 =>
 some r87

noncomputable def ref07_Get_lp1 (a1 : List Int) (nv294 : Int) (r365 : List Int) : Int → Option (Rnd Int Unit (Flow Unit ref07_Got)) := fun i415 =>
 bif decide (i415 < nv294) then
 (idx r365 i415).bind fun e431 =>
 (idx a1 i415).bind fun e445 =>
 bif (!decide (e431 = e445)) then
 outr (outs (some (ref07_Got.mk 0 0 (ref07_State.mk [] (ref07_Window.mk 0 0)) 3)))
 else
 lett (w64 (i415 + 1)) fun i480 =>
 some (.next i480)
 else
 some (.brk ())

noncomputable def ref07_Get (a0 : ref07_State) (a1 : List Int) : Option ref07_Got :=
 bif decide ((a0.L.length : Int) = 0) then
 bif decide ((a1.length : Int) < 64) then
 some (ref07_Got.mk 0 0 (ref07_State.mk [] (ref07_Window.mk 0 0)) 2)
 else
 (slc a1 0 64).bind fun t38 =>
 (ref01_Number t38).bind fun r42 =>
 (ref07_with a0 r42 a0.W).bind fun r53 =>
 some (ref07_Got.mk r42 64 r53 0)
 else
 bif decide ((a1.length : Int) < 1) then
 some (ref07_Got.mk 0 0 (ref07_State.mk [] (ref07_Window.mk 0 0)) 2)
 else
 (idx a1 0).bind fun e83 =>
 bif decide (e83 = 0) then
 (ref07_last a0).bind fun r122 =>
 (ref07_last a0).bind fun r132 =>
 (ref07_with a0 r132 a0.W).bind fun r142 =>
 some (ref07_Got.mk r122 1 r142 0)
 else
 bif decide ((a1.length : Int) < 2) then
 some (ref07_Got.mk 0 0 (ref07_State.mk [] (ref07_Window.mk 0 0)) 2)
 else
 flow ((idx a1 1).bind fun e192 =>
 bif decide (e192 = 1) then
 bif decide ((a1.length : Int) < 13) then
 outs (some (ref07_Got.mk 0 0 (ref07_State.mk [] (ref07_Window.mk 0 0)) 2))
 else
 (slc a1 2 7).bind fun t219 =>
 (slc a1 7 13).bind fun t230 =>
 (ref01_Number t219).bind fun r237 =>
 (ref01_Number t230).bind fun r250 =>
 some (.go (w64 (r237.toNat : Int), w64 ((w64 (r250.toNat : Int)) + 1), 13))
 else
 some (.go (a0.W.From, a0.W.Size, 2)) : Option (Flow (Int × Int × Int) ref07_Got)) fun (c184, c185, at186) =>
 bif ((decide (c185 = 0)) || (decide (64 < w64 (c184 + c185)))) then
 some (ref07_Got.mk 0 0 (ref07_State.mk [] (ref07_Window.mk 0 0)) 3)
 else
 bif decide (w64 ((a1.length : Int) - at186) < c185) then
 some (ref07_Got.mk 0 0 (ref07_State.mk [] (ref07_Window.mk 0 0)) 2)
 else
 lett (w64 (at186 + c185)) fun nv294 =>
 (slc a1 at186 nv294).bind fun t314 =>
 (ref07_last a0).bind fun r331 =>
 (ref07_placed t314 (ref07_Window.mk c184 c185)).bind fun r341 =>
 lett ((r331 ^^^ r341)) fun v353 =>
 (ref07_Put a0 v353).bind fun (r365, r366) =>
 bif (!decide ((r365.length : Int) = nv294)) then
 some (ref07_Got.mk 0 0 (ref07_State.mk [] (ref07_Window.mk 0 0)) 3)
 else
 flow (flow (loop (ref07_Get_lp1 a1 nv294 r365) 0) fun (_ : Unit) =>
 some (.go ())) fun (_ : Unit) =>
 some (ref07_Got.mk v353 nv294 r366 0)

noncomputable def xor_Row_Get (a0 : xor_Row) (a1 : bitio_Reader) : Option (UInt64 × Int × xor_Row × bitio_Reader) :=
 (some ()).bind fun (_ : Unit) =>
 (bif decide (a0.n = 0) then
 ((bitio_Reader_Take a1 64).bind fun (r144, r145, r146) =>
 bif ((!r145) && (decide (0 = 0))) then
 some (r146.b, r146.n, r146.at_, 2, r144)
 else
 some (r146.b, r146.n, r146.at_, 0, r144) : Option (List UInt8 × Int × Int × Int × UInt64)).bind fun (c128, c131, c132, c134, x135) =>
 some (a0.win.ahead, a0.win.size, c128, c131, c132, c134, x135)
 else
 ((bitio_Reader_Take a1 1).bind fun (r188, r189, r190) =>
 bif ((!r189) && (decide (0 = 0))) then
 some (r190.b, r190.n, r190.at_, 2, r188)
 else
 some (r190.b, r190.n, r190.at_, 0, r188) : Option (List UInt8 × Int × Int × Int × UInt64)).bind fun (c172, c175, c176, c178, x179) =>
 bif decide (x179 = 0) then
 some (a0.win.ahead, a0.win.size, c172, c175, c176, c178, 0)
 else
 ((bitio_Reader_Take (bitio_Reader.mk c172 c175 c176) 1).bind fun (r230, r231, r232) =>
 bif ((!r231) && (decide (c178 = 0))) then
 some (r232.b, r232.n, r232.at_, 2, r230)
 else
 some (r232.b, r232.n, r232.at_, c178, r230) : Option (List UInt8 × Int × Int × Int × UInt64)).bind fun (c217, c220, c221, c223, x224) =>
 bif decide (x224 = 0) then
 (bif ((decide (a0.win.ahead = (0 : Int)) && (decide (a0.win.size = (0 : Int)) && true)) && (decide (c223 = 0))) then
 some 3
 else
 some c223 : Option Int).bind fun c258 =>
 ((bitio_Reader_Take (bitio_Reader.mk c217 c220 c221) a0.win.size).bind fun (r391, r392, r393) =>
 bif ((!r392) && (decide (c258 = 0))) then
 some (2, r393.b, r393.n, r393.at_, r391)
 else
 some (c258, r393.b, r393.n, r393.at_, r391) : Option (Int × List UInt8 × Int × Int × UInt64)).bind fun (c374, c376, c379, c380, x381) =>
 (xor_window_behind a0.win).bind fun r420 =>
 lett (shlU x381 ((toU64 (r420.tmod 64)).toNat)) fun d438 =>
 bif ((decide (d438 = 0)) && (decide (c374 = 0))) then
 some (a0.win.ahead, a0.win.size, c376, c379, c380, 3, d438)
 else
 some (a0.win.ahead, a0.win.size, c376, c379, c380, c374, d438)
 else
 ((bitio_Reader_Take (bitio_Reader.mk c217 c220 c221) 5).bind fun (r483, r484, r485) =>
 bif ((!r484) && (decide (c223 = 0))) then
 some (r485.b, r485.n, r485.at_, 2, r483)
 else
 some (r485.b, r485.n, r485.at_, c223, r483) : Option (List UInt8 × Int × Int × Int × UInt64)).bind fun (c470, c473, c474, c476, x477) =>
 ((bitio_Reader_Take (bitio_Reader.mk c470 c473 c474) 6).bind fun (r535, r536, r537) =>
 bif ((!r536) && (decide (c476 = 0))) then
 some (r537.b, r537.n, r537.at_, 2, r535)
 else
 some (r537.b, r537.n, r537.at_, c476, r535) : Option (List UInt8 × Int × Int × Int × UInt64)).bind fun (c518, c521, c522, c524, x525) =>
 lett (w64 ((w64 (x525.toNat : Int)) + 1)) fun t567 =>
 ((bif decide (c524 = 0) then
 (xor_window_behind (xor_window.mk (w64 (x477.toNat : Int)) t567)).bind fun r587 =>
 some (decide (r587 < 0))
 else
 some false : Option Bool).bind fun x580 =>
 bif x580 then
 some 3
 else
 some c524 : Option Int).bind fun c573 =>
 ((bitio_Reader_Take (bitio_Reader.mk c518 c521 c522) t567).bind fun (r621, r622, r623) =>
 bif ((!r622) && (decide (c573 = 0))) then
 some (2, r623.b, r623.n, r623.at_, r621)
 else
 some (c573, r623.b, r623.n, r623.at_, r621) : Option (Int × List UInt8 × Int × Int × UInt64)).bind fun (c604, c606, c609, c610, x611) =>
 bif (!decide (c604 = 0)) then
 some (a0.win.ahead, a0.win.size, c606, c609, c610, c604, 0)
 else
 (xor_window_behind (xor_window.mk (w64 (x477.toNat : Int)) t567)).bind fun r658 =>
 lett (shlU x611 ((toU64 r658).toNat)) fun d667 =>
 ((bif decide (d667 = 0) then
 some true
 else
 (xor_around d667).bind fun r722 =>
 some (!(decide (r722.ahead = w64 (x477.toNat : Int)) && (decide (r722.size = t567) && true)))).bind fun x686 =>
 (bif x686 then
 some true
 else
 (xor_window_holds a0.win d667).bind fun r813 =>
 some r813).bind fun x740 =>
 bif x740 then
 some 3
 else
 some c604 : Option Int).bind fun c669 =>
 some (w64 (x477.toNat : Int), t567, c606, c609, c610, c669, d667) : Option (Int × Int × List UInt8 × Int × Int × Int × UInt64)).bind fun (c108, c109, c111, c114, c115, c117, x118) =>
 bif (!decide (c117 = 0)) then
 some (0, c117, a0, a1)
 else
 lett ((a0.last ^^^ x118)) fun t883 =>
 lett (w64 (a0.n + 1)) fun t887 =>
 (bitio_Reader_At (bitio_Reader.mk c111 c114 c115)).bind fun r895 =>
 (bitio_Reader_At a1).bind fun r919 =>
 (bitio_Reader_Skip a1 (w64 (r895 - r919))).bind fun (r930, r931) =>
 some (t883, 0, (xor_Row.mk t887 t883 (xor_window.mk c108 c109)), r931)

noncomputable def law07_XorTakes_lp1 (a1 : Int) : (List UInt8 × Int × Int × List Int × Int × UInt64 × Int × Int × Int × UInt64 × Int × Int × List UInt8 × Int × List UInt64 × Int × Int × Int × Int) → Option (Rnd (List UInt8 × Int × Int × List Int × Int × UInt64 × Int × Int × Int × UInt64 × Int × Int × List UInt8 × Int × List UInt64 × Int × Int × Int × Int) (List Int × List UInt8 × Int × Int) (Flow (List Int × List UInt8 × Int × Int) Bool)) := fun (c127, c130, c131, l132, c136, c137, c138, c139, c141, c142, c143, c144, c146, c149, c151, c154, c155, at156, i157) =>
 bif decide (i157 < a1) then
 (slc l132 at156 (l132.length : Int)).bind fun t241 =>
 ((ref07_Get (ref07_State.mk c151 (ref07_Window.mk c154 c155)) t241).bind fun r266 =>
 some (r266.V, r266.N, r266.S.L, r266.S.W.From, r266.S.W.Size, r266.E)).bind fun (x251, x252, x253, x256, x257, x258) =>
 (xor_Row_Get (xor_Row.mk c136 c137 (xor_window.mk c138 c139)) (bitio_Reader.mk c127 c130 c131)).bind fun (r353, r354, r355, r356) =>
 (bif ((!decide (r353 = x251)) || (!decide (r354 = x258))) then
 some true
 else
 (bitio_Reader_At r356).bind fun r449 =>
 some (!decide (r449 = w64 (at156 + x252)))).bind fun x418 =>
 bif x418 then
 outr (outs (some false))
 else
 bif (!decide (r354 = 0)) then
 (xor_Row_Get r355 r356).bind fun (r479, r480, r481, r482) =>
 (bif (!decide (r480 = x258)) then
 some true
 else
 (xor_Row_Len r481).bind fun r563 =>
 some (!decide (r563 = (c151.length : Int)))).bind fun x521 =>
 bif x521 then
 outr (outs (some false))
 else
 some (.brk (l132, c146, c149, at156))
 else
 lett (w64 (at156 + x252)) fun at624 =>
 (xor_Row_Put (xor_Row.mk c141 c142 (xor_window.mk c143 c144)) (bitio_Writer.mk c146 c149) r353).bind fun (r654, r655) =>
 lett (w64 (i157 + 1)) fun i671 =>
 some (.next (r356.b, r356.n, r356.at_, l132, r355.n, r355.last, r355.win.ahead, r355.win.size, r654.n, r654.last, r654.win.ahead, r654.win.size, r655.b, r655.n, x253, x256, x257, at624, i671))
 else
 some (.brk (l132, c146, c149, at156))

noncomputable def law07_XorTakes (a0 : List UInt8) (a1 : Int) : Option Bool :=
 (law07_awake).bind fun r14 =>
 bif (!r14) then
 some false
 else
 bif (((decide (80 < (a0.length : Int))) || (decide (a1 < 0))) || (decide (60 < a1))) then
 some true
 else
 (bitio_NewReader a0 (w64 (8 * (a0.length : Int)))).bind fun (r30, r31) =>
 bif r30.isNone then
 some false
 else
 (ref01_Bits a0).bind fun r45 =>
 (xor_NewRow).bind fun r57 =>
 (xor_NewRow).bind fun r69 =>
 (bitio_NewWriter).bind fun r81 =>
 flow ((r30).bind fun d119 =>
 flow (loop (law07_XorTakes_lp1 a1) (d119.b, d119.n, d119.at_, r45, r57.n, r57.last, r57.win.ahead, r57.win.size, r69.n, r69.last, r69.win.ahead, r69.win.size, r81.b, r81.n, [], 0, 0, 0, 0)) fun (l161, c165, c168, at169) =>
 some (.go (l161, c165, c168, at169)) : Option (Flow (List Int × List UInt8 × Int × Int) Bool)) fun (l105, c109, c112, at113) =>
 (bitio_Writer_Len (bitio_Writer.mk c109 c112)).bind fun r718 =>
 (bif decide (r718 = at113) then
 (slc l105 0 at113).bind fun t750 =>
 (bitio_Writer_Bytes (bitio_Writer.mk c109 c112)).bind fun r761 =>
 (ref01_Bytes t750).bind fun r778 =>
 some (decide (r761 = r778))
 else
 some false).bind fun x733 =>
 some x733

noncomputable def xor_Row_Clone (a0 : xor_Row) : Option xor_Row :=
 some a0

noncomputable def law07_XorRows_lp1 (a0 : List UInt64) (a1 : UInt64) : (List UInt8 × Int × Int × UInt64 × Int × Int × List UInt64 × Int × Int × List Int × Int) → Option (Rnd (List UInt8 × Int × Int × UInt64 × Int × Int × List UInt64 × Int × Int × List Int × Int) (List UInt8 × Int × List Int) (Flow (List UInt8 × Int × List Int) Bool)) := fun (c78, c81, c83, c84, c85, c86, c88, c91, c92, all93, i96) =>
 bif decide (i96 < (a0.length : Int)) then
 (xor_Row_Clone (xor_Row.mk c83 c84 (xor_window.mk c85 c86))).bind fun r137 =>
 (bitio_NewWriter).bind fun r149 =>
 (xor_Row_Put r137 r149 a1).bind fun (r182, r183) =>
 (idx a0 i96).bind fun e199 =>
 (xor_Row_Put (xor_Row.mk c83 c84 (xor_window.mk c85 c86)) (bitio_Writer.mk c78 c81) e199).bind fun (r225, r226) =>
 (idx a0 i96).bind fun e259 =>
 ((ref07_Put (ref07_State.mk c88 (ref07_Window.mk c91 c92)) e259).bind fun (r301, r302) =>
 some (r301, r302.L, r302.W.From, r302.W.Size)).bind fun (bits280, x285, x288, x289) =>
 (app all93 bits280).bind fun xs403 =>
 (bitio_Writer_Len r226).bind fun r429 =>
 (bif (!decide (r429 = (xs403.length : Int))) then
 some true
 else
 (xor_Row_Len r225).bind fun r452 =>
 some (!decide (r452 = w64 (i96 + 1))) : Option Bool).bind fun x439 =>
 (bif x439 then
 some true
 else
 (xor_Row_Len r182).bind fun r476 =>
 some (!decide (r476 = w64 (i96 + 1))) : Option Bool).bind fun x461 =>
 bif x461 then
 outr (outs (some false))
 else
 lett (w64 (i96 + 1)) fun i487 =>
 some (.next (r226.b, r226.n, r225.n, r225.last, r225.win.ahead, r225.win.size, x285, x288, x289, xs403, i487))
 else
 some (.brk (c78, c81, all93))

noncomputable def law07_XorRows_lp2 (a0 : List UInt64) : (Int × UInt64 × Int × Int × List UInt8 × Int × Int × Int) → Option (Rnd (Int × UInt64 × Int × Int × List UInt8 × Int × Int × Int) (List UInt8 × Int × Int) (Flow (List UInt8 × Int × Int) Bool)) := fun (c725, c726, c727, c728, c730, c733, c734, i735) =>
 bif decide (i735 < (a0.length : Int)) then
 (xor_Row_Get (xor_Row.mk c725 c726 (xor_window.mk c727 c728)) (bitio_Reader.mk c730 c733 c734)).bind fun (r801, r802, r803, r804) =>
 (idx a0 i735).bind fun e820 =>
 bif ((!decide (r801 = e820)) || (!decide (r802 = 0))) then
 outr (outs (some false))
 else
 lett (w64 (i735 + 1)) fun i836 =>
 some (.next (r803.n, r803.last, r803.win.ahead, r803.win.size, r804.b, r804.n, r804.at_, i836))
 else
 some (.brk (c730, c733, c734))

noncomputable def law07_XorRows (a0 : List UInt64) (a1 : UInt64) : Option Bool :=
 (law07_awake).bind fun r14 =>
 bif (!r14) then
 some false
 else
 bif decide (60 < (a0.length : Int)) then
 some true
 else
 (bitio_NewWriter).bind fun r28 =>
 (xor_NewRow).bind fun r44 =>
 flow (flow (loop (law07_XorRows_lp1 a0 a1) (r28.b, r28.n, r44.n, r44.last, r44.win.ahead, r44.win.size, [], 0, 0, [], 0)) fun (c101, c104, all105) =>
 some (.go (c101, c104, all105)) : Option (Flow (List UInt8 × Int × List Int) Bool)) fun (c65, c68, all69) =>
 (bitio_Writer_Bytes (bitio_Writer.mk c65 c68)).bind fun r544 =>
 (ref01_Bytes all69).bind fun r562 =>
 (bif (!decide (r544 = r562)) then
 some true
 else
 (xor_Cost a0).bind fun r632 =>
 some (!decide (r632 = (all69.length : Int)))).bind fun x584 =>
 bif x584 then
 some false
 else
 (bitio_Writer_Bytes (bitio_Writer.mk c65 c68)).bind fun r655 =>
 (bitio_Writer_Len (bitio_Writer.mk c65 c68)).bind fun r669 =>
 (bitio_NewReader r655 r669).bind fun (r679, r680) =>
 bif r679.isNone then
 some false
 else
 (xor_NewRow).bind fun r693 =>
 flow ((r679).bind fun d717 =>
 flow (loop (law07_XorRows_lp2 a0) (r693.n, r693.last, r693.win.ahead, r693.win.size, d717.b, d717.n, d717.at_, 0)) fun (c740, c743, c744) =>
 some (.go (c740, c743, c744)) : Option (Flow (List UInt8 × Int × Int) Bool)) fun (c707, c710, c711) =>
 (bitio_Reader_Left (bitio_Reader.mk c707 c710 c711)).bind fun r841 =>
 lett (decide (r841 = 0)) fun t850 =>
 some t850

def rep_xor_window : Rep xor_window := Rep.via (Rep.pair Rep.i Rep.i) fun d => (d.ahead, d.size)
theorem flat_xor_window : Flat rep_xor_window := Flat.via (Flat.pair Flat.i Flat.i) _
def rep_xor_Row : Rep xor_Row := Rep.via (Rep.pair Rep.i (Rep.pair Rep.u rep_xor_window)) fun d => (d.n, d.last, d.win)
theorem flat_xor_Row : Flat rep_xor_Row := Flat.via (Flat.pair Flat.i (Flat.pair Flat.u flat_xor_window)) _
def rep_ref07_Window : Rep ref07_Window := Rep.via (Rep.pair Rep.i Rep.i) fun d => (d.From, d.Size)
theorem flat_ref07_Window : Flat rep_ref07_Window := Flat.via (Flat.pair Flat.i Flat.i) _
def rep_ref07_State : Rep ref07_State := Rep.via (Rep.pair (Rep.sl Rep.u) rep_ref07_Window) fun d => (d.L, d.W)
def rep_ref07_Got : Rep ref07_Got := Rep.via (Rep.pair Rep.u (Rep.pair Rep.i (Rep.pair rep_ref07_State Rep.i))) fun d => (d.V, d.N, d.S, d.E)
end Go.Lg
