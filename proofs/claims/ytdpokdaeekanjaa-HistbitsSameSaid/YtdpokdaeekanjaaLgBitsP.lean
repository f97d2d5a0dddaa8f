/- The plain functions, printed by gen.py. -/
import Derived.Test.YtdpokdaeekanjaaLgDraw
set_option linter.unusedVariables false
namespace Go.Lg
structure bitio_Writer where
  b : List UInt8
  n : Int
  deriving DecidableEq
structure bitio_Reader where
  b : List UInt8
  n : Int
  at_ : Int
  deriving DecidableEq
structure law01_Put where
  Kind : Int
  V : UInt64
  N : Int
  B : List UInt8
  deriving DecidableEq
structure vary_Row where
  n : Int
  last : UInt64
  step : UInt64
  deriving DecidableEq
structure ref06_Got where
  V : UInt64
  N : Int
  E : Int
  deriving DecidableEq
noncomputable def bitio_NewWriter  : Option bitio_Writer :=
 some (bitio_Writer.mk [] 0)

noncomputable def bitio_Writer_room (a0 : bitio_Writer) : Option Int :=
 lett (w64 ((w64 (8 * (a0.b.length : Int))) - a0.n)) fun t17 =>
 some t17

noncomputable def bitio_Writer_Put_lp1 (a1 : UInt64) : (List UInt8 × Int × Int) → Option (Rnd (List UInt8 × Int × Int) (List UInt8 × Int) (Bool × bitio_Writer)) := fun (c19, c22, nv23) =>
 bif decide (0 < nv23) then
 (((bitio_Writer_room (bitio_Writer.mk c19 c22)).bind fun r62 =>
 bif decide (r62 = 0) then
 (app c19 [0]).bind fun xs78 =>
 some xs78
 else
 some c19).bind fun c54 =>
 (bitio_Writer_room (bitio_Writer.mk c54 c22)).bind fun r98 =>
 lett ((min nv23 r98)) fun k107 =>
 lett (shrU a1 ((toU64 (w64 (nv23 - k107))).toNat)) fun piece108 =>
 (bif decide (k107 < 64) then
 lett ((piece108 &&& ((shlU (1 : UInt64) ((toU64 k107).toNat)) - 1))) fun piece113 =>
 some piece113
 else
 some piece108).bind fun piece109 =>
 (idx c54 (w64 ((c54.length : Int) - 1))).bind fun e120 =>
 (idx c54 (w64 ((c54.length : Int) - 1))).bind fun e130 =>
 lett ((e120 ||| ((shlU piece109 ((toU64 (w64 (r98 - k107))).toNat)).toUInt8))) fun t140 =>
 (setI c54 (w64 ((c54.length : Int) - 1)) t140).bind fun xs141 =>
 lett (w64 (c22 + k107)) fun t146 =>
 lett (w64 (nv23 - k107)) fun nv150 =>
 some (xs141, t146, nv150)).bind fun (c43, c46, nv47) =>
 some (.next (c43, c46, nv47))
 else
 some (.brk (c19, c22))
noncomputable def bitio_Writer_Put (a0 : bitio_Writer) (a1 : UInt64) (a2 : Int) : Option (Bool × bitio_Writer) :=
 bif (((decide (a2 < 0)) || (decide (64 < a2))) || ((decide (a2 < 64)) && (!decide (shrU a1 ((toU64 a2).toNat) = 0)))) then
 some (false, a0)
 else
 flow (loop (bitio_Writer_Put_lp1 a1) (a0.b, a0.n, a2)) fun (c28, c31) =>
 some (true, (bitio_Writer.mk c28 c31))

def bytes_Clone (a0 : List UInt8) : Option (List UInt8) := app [] a0

noncomputable def bitio_Writer_Bytes (a0 : bitio_Writer) : Option (List UInt8) :=
 (bytes_Clone a0.b).bind fun r13 =>
 some r13

noncomputable def bitio_NewReader (a0 : List UInt8) (a1 : Int) : Option (Option bitio_Reader × Int) :=
 lett (decide (a1 < 0)) fun t12 =>
 bif t12 then
 some (none, 1)
 else
 lett (((decide ((a0.length : Int) < w64 (a1.tdiv 8))) || ((decide ((a0.length : Int) = w64 (a1.tdiv 8))) && (decide (0 < a1.tmod 8))))) fun t17 =>
 bif t17 then
 some (none, 2)
 else
 lett (decide (w64 ((w64 (a1 + 7)).tdiv 8) < (a0.length : Int))) fun t20 =>
 bif t20 then
 some (none, 3)
 else
 (bif decide (0 < a1.tmod 8) then
 (idx a0 (w64 (a1.tdiv 8))).bind fun e27 =>
 some (!decide (shlB e27 ((toU64 (a1.tmod 8)).toNat) = 0))
 else
 some false).bind fun x23 =>
 bif x23 then
 some (none, 3)
 else
 (bytes_Clone a0).bind fun r41 =>
 some ((some (bitio_Reader.mk r41 a1 0)), 0)

noncomputable def bitio_Writer_Len (a0 : bitio_Writer) : Option Int :=
 some a0.n

noncomputable def bitio_Reader_Left (a0 : bitio_Reader) : Option Int :=
 lett (w64 (a0.n - a0.at_)) fun t16 =>
 some t16

noncomputable def bitio_Reader_Look_lp1 (a0 : bitio_Reader) : (Int × UInt64 × Int) → Option (Rnd (Int × UInt64 × Int) UInt64 (UInt64 × Bool)) := fun (nv33, v34, at35) =>
 bif decide (0 < nv33) then
 lett (w64 (8 - (at35.tmod 8))) fun free44 =>
 lett ((min nv33 free44)) fun k45 =>
 (idx a0.b (w64 (at35.tdiv 8))).bind fun e46 =>
 lett (((shrB e46 ((toU64 (w64 (free44 - k45))).toNat)) &&& ((shlB (1 : UInt8) ((toU64 k45).toNat)) - 1))) fun piece59 =>
 lett (((shlU v34 ((toU64 k45).toNat)) ||| piece59.toUInt64)) fun v60 =>
 lett (w64 (at35 + k45)) fun at61 =>
 lett (w64 (nv33 - k45)) fun nv62 =>
 some (.next (nv62, v60, at61))
 else
 some (.brk v34)
noncomputable def bitio_Reader_Look (a0 : bitio_Reader) (a1 : Int) : Option (UInt64 × Bool) :=
 (bif ((decide (a1 < 0)) || (decide (64 < a1))) then
 some true
 else
 (bitio_Reader_Left a0).bind fun r21 =>
 some (decide (r21 < a1))).bind fun x14 =>
 bif x14 then
 some (0, false)
 else
 flow (loop (bitio_Reader_Look_lp1 a0) (a1, 0, a0.at_)) fun v36 =>
 some (v36, true)

noncomputable def bitio_Reader_Take (a0 : bitio_Reader) (a1 : Int) : Option (UInt64 × Bool × bitio_Reader) :=
 (bitio_Reader_Look a0 a1).bind fun (r13, r14) =>
 bif r14 then
 lett (w64 (a0.at_ + a1)) fun t25 =>
 some (r13, r14, (bitio_Reader.mk a0.b a0.n t25))
 else
 some (r13, r14, a0)

noncomputable def law01_awake  : Option Bool :=
 (bitio_NewWriter).bind fun r11 =>
 (bitio_Writer_Put r11 (5 : UInt64) 3).bind fun (r26, r27) =>
 (bif (!r26) then
 some (r27.b, r27.n, true)
 else
 (bitio_Writer_Put r27 (1 : UInt64) 2).bind fun (r57, r58) =>
 some (r58.b, r58.n, (!r57))).bind fun (c42, c45, x46) =>
 (bif x46 then
 some true
 else
 (bitio_Writer_Len (bitio_Writer.mk c42 c45)).bind fun r83 =>
 some (!decide (r83 = 5))).bind fun x76 =>
 bif x76 then
 some false
 else
 (bitio_NewReader [168] 5).bind fun (r99, r100) =>
 (bif (r99.isNone || (!decide (r100 = 0))) then
 some true
 else
 (bitio_Writer_Bytes (bitio_Writer.mk c42 c45)).bind fun r125 =>
 some (!decide (r125 = [168]))).bind fun x112 =>
 bif x112 then
 some false
 else
 (r99).bind fun d139 =>
 (bitio_Reader_Take d139 3).bind fun (r148, r149, r150) =>
 (bitio_Reader_Take r150 3).bind fun (r164, r165, r166) =>
 (bif (((decide (r148 = 5)) && r149) && (!r165)) then
 (bitio_Reader_Left r166).bind fun r189 =>
 some (decide (r189 = 2))
 else
 some false).bind fun x182 =>
 some x182

noncomputable def law01_BitsBack_lp1 (a0 : List UInt64) (a1 : List Int) : (List UInt8 × Int × List Bool × Int) → Option (Rnd (List UInt8 × Int × List Bool × Int) (List UInt8 × Int × List Bool) (List UInt8 × Int × List Bool)) := fun (c58, c61, is62, i65) =>
 bif decide (i65 < (a0.length : Int)) then
 (idx a0 i65).bind fun e107 =>
 (idx a1 i65).bind fun e133 =>
 (bitio_Writer_Put (bitio_Writer.mk c58 c61) e107 e133).bind fun (r158, r159) =>
 (app is62 [r158]).bind fun xs178 =>
 lett (w64 (i65 + 1)) fun i190 =>
 some (.next (r159.b, r159.n, xs178, i190))
 else
 some (.brk (c58, c61, is62))
noncomputable def law01_BitsBack_lp2 (a0 : List UInt64) (a1 : List Int) (is49 : List Bool) : (List UInt8 × Int × Int × Int) → Option (Rnd (List UInt8 × Int × Int × Int) (List UInt8 × Int × Int) (Flow (List UInt8 × Int × Int) Bool)) := fun (c274, c277, c278, i279) =>
 bif decide (i279 < (a0.length : Int)) then
 flow ((idx is49 i279).bind fun e316 =>
 bif (!e316) then
 some (.go (c274, c277, c278))
 else
 (idx a1 i279).bind fun e331 =>
 (bitio_Reader_Take (bitio_Reader.mk c274 c277 c278) e331).bind fun (r350, r351, r352) =>
 (bif (!r351) then
 some true
 else
 (idx a0 i279).bind fun e370 =>
 some (!decide (r350 = e370))).bind fun x366 =>
 bif x366 then
 outs (outr (outs (some false)))
 else
 some (.go (r352.b, r352.n, r352.at_))) fun (c306, c309, c310) =>
 lett (w64 (i279 + 1)) fun i385 =>
 some (.next (c306, c309, c310, i385))
 else
 some (.brk (c274, c277, c278))
noncomputable def law01_BitsBack_lp3 : (List UInt8 × Int) → Option (Rnd (List UInt8 × Int) (List UInt8) (List UInt8)) := fun (b398, i401) =>
 bif decide (i401 < (b398.length : Int)) then
 (idx b398 i401).bind fun e423 =>
 (setI b398 i401 0).bind fun xs433 =>
 lett (w64 (i401 + 1)) fun i437 =>
 some (.next (xs433, i437))
 else
 some (.brk b398)
noncomputable def law01_BitsBack (a0 : List UInt64) (a1 : List Int) : Option Bool :=
 (law01_awake).bind fun r13 =>
 bif (!r13) then
 some false
 else
 bif ((decide (100 < (a0.length : Int))) || (decide ((a1.length : Int) < (a0.length : Int)))) then
 some true
 else
 (bitio_NewWriter).bind fun r29 =>
 (flow (loop (law01_BitsBack_lp1 a0 a1) (r29.b, r29.n, [], 0)) fun (c70, c73, is74) =>
 some (c70, c73, is74)).bind fun (c45, c48, is49) =>
 (bitio_Writer_Bytes (bitio_Writer.mk c45 c48)).bind fun r215 =>
 (bitio_Writer_Len (bitio_Writer.mk c45 c48)).bind fun r229 =>
 (bitio_NewReader r215 r229).bind fun (r239, r240) =>
 bif (r239.isNone || (!decide (r240 = 0))) then
 some false
 else
 flow ((r239).bind fun d266 =>
 flow (loop (law01_BitsBack_lp2 a0 a1 is49) (d266.b, d266.n, d266.at_, 0)) fun (c284, c287, c288) =>
 some (.go (c284, c287, c288))) fun (c256, c259, c260) =>
 (flow (loop (law01_BitsBack_lp3) (r215, 0)) fun b405 =>
 some b405).bind fun b390 =>
 (bitio_Reader_Left (bitio_Reader.mk c256 c259 c260)).bind fun r446 =>
 (bif decide (r446 = 0) then
 (bif decide ((b390.length : Int) = 0) then
 some true
 else
 (bitio_Writer_Len (bitio_Writer.mk c45 c48)).bind fun r480 =>
 some (decide (w64 ((w64 (8 * (b390.length : Int))) - 8) < r480))).bind fun x463 =>
 some x463
 else
 some false).bind fun x455 =>
 some x455

noncomputable def ref01_Bits_lp2 (x45 : Int) : (List Int × Int) → Option (Rnd (List Int × Int) (List Int) (List Int)) := fun (out54, k57) =>
 bif decide (0 < k57) then
 chk ((!decide (k57 = 0))) <|
 (app out54 [(w64 (x45.tdiv k57)).tmod 2]).bind fun xs83 =>
 lett (w64 (k57.tdiv 2)) fun k90 =>
 some (.next (xs83, k90))
 else
 some (.brk out54)
noncomputable def ref01_Bits_lp1 (a0 : List UInt8) : (List Int × Int) → Option (Rnd (List Int × Int) (List Int) (List Int)) := fun (out12, i15) =>
 bif decide (i15 < (a0.length : Int)) then
 (idx a0 i15).bind fun e33 =>
 lett ((e33.toNat : Int)) fun x45 =>
 (flow (loop (ref01_Bits_lp2 x45) (out12, 128)) fun out61 =>
 some out61).bind fun out46 =>
 lett (w64 (i15 + 1)) fun i97 =>
 some (.next (out46, i97))
 else
 some (.brk out12)
noncomputable def ref01_Bits (a0 : List UInt8) : Option (List Int) :=
 flow (loop (ref01_Bits_lp1 a0) ([], 0)) fun out19 =>
 some out19

noncomputable def ref01_Open_lp1 (r18 : List Int) : Int → Option (Rnd Int Unit Int) := fun i30 =>
 bif decide (i30 < (r18.length : Int)) then
 (idx r18 i30).bind fun e38 =>
 bif (!decide (e38 = 0)) then
 outr (some 3)
 else
 lett (w64 (i30 + 1)) fun i50 =>
 some (.next i50)
 else
 some (.brk ())
noncomputable def ref01_Open (a0 : List UInt8) (a1 : Int) : Option Int :=
 bif decide (a1 < 0) then
 some 1
 else
 bif decide (w64 (8 * (a0.length : Int)) < a1) then
 some 2
 else
 bif decide (7 < w64 ((w64 (8 * (a0.length : Int))) - a1)) then
 some 3
 else
 (ref01_Bits a0).bind fun r18 =>
 flow (loop (ref01_Open_lp1 r18) a1) fun (_ : Unit) =>
 some 0

noncomputable def bitio_Reader_At (a0 : bitio_Reader) : Option Int :=
 some a0.at_

noncomputable def law01_BitsOpen (a0 : List UInt8) (a1 : Int) : Option Bool :=
 (law01_awake).bind fun r12 =>
 bif (!r12) then
 some false
 else
 bif decide (200 < (a0.length : Int)) then
 some true
 else
 (bitio_NewReader a0 a1).bind fun (r26, r27) =>
 (ref01_Open a0 a1).bind fun r39 =>
 bif ((!decide (r27 = r39)) || (!decide (r26.isNone = (!decide (r39 = 0))))) then
 some false
 else
 (bif r26.isNone then
 some true
 else
 (r26).bind fun d58 =>
 (bitio_Reader_Left d58).bind fun r67 =>
 (bif decide (r67 = a1) then
 (bitio_Reader_At d58).bind fun r85 =>
 some (decide (r85 = 0))
 else
 some false).bind fun x76 =>
 some x76).bind fun x51 =>
 some x51

noncomputable def bitio_Reader_Skip (a0 : bitio_Reader) (a1 : Int) : Option (Bool × bitio_Reader) :=
 (bif decide (a1 < 0) then
 some true
 else
 (bitio_Reader_Left a0).bind fun r20 =>
 some (decide (r20 < a1))).bind fun x13 =>
 bif x13 then
 some (false, a0)
 else
 lett (w64 (a0.at_ + a1)) fun t34 =>
 some (true, (bitio_Reader.mk a0.b a0.n t34))

noncomputable def ref01_Number_lp1 (a0 : List Int) : (UInt64 × Int) → Option (Rnd (UInt64 × Int) UInt64 UInt64) := fun (v12, i13) =>
 bif decide (i13 < (a0.length : Int)) then
 (idx a0 i13).bind fun e22 =>
 lett ((((2 : UInt64) * v12) + (toU64 e22))) fun v34 =>
 lett (w64 (i13 + 1)) fun i35 =>
 some (.next (v34, i35))
 else
 some (.brk v12)
noncomputable def ref01_Number (a0 : List Int) : Option UInt64 :=
 flow (loop (ref01_Number_lp1 a0) (0, 0)) fun v14 =>
 some v14

noncomputable def law01_BitsTake_lp1 : (List UInt8 × Int) → Option (Rnd (List UInt8 × Int) Unit Unit) := fun (own62, i65) =>
 bif decide (i65 < (own62.length : Int)) then
 (idx own62 i65).bind fun e83 =>
 (idx own62 i65).bind fun e93 =>
 lett ((e83 ^^^ 255)) fun t103 =>
 (setI own62 i65 t103).bind fun xs104 =>
 lett (w64 (i65 + 1)) fun i108 =>
 some (.next (xs104, i108))
 else
 some (.brk ())
noncomputable def law01_BitsTake_lp2 (a1 : List Int) : (List UInt8 × Int × Int × List Int × Int × Int) → Option (Rnd (List UInt8 × Int × Int × List Int × Int × Int) Unit Bool) := fun (c131, c134, c135, all136, at139, i140) =>
 bif decide (i140 < (a1.length : Int)) then
 flow ((idx a1 i140).bind fun e182 =>
 flow (bif decide (e182 < (-100)) then
 lett (w64 ((-100) - e182)) fun nv207 =>
 lett (((decide (0 ≤ nv207)) && (decide (nv207 ≤ w64 ((all136.length : Int) - at139))))) fun is209 =>
 (bitio_Reader_Skip (bitio_Reader.mk c131 c134 c135) nv207).bind fun (r210, r211) =>
 bif (!decide (r210 = is209)) then
 outs (outs (outr (some false)))
 else
 bif is209 then
 lett (w64 (at139 + nv207)) fun at228 =>
 some (.go (r211.b, r211.n, r211.at_, at228))
 else
 some (.go (r211.b, r211.n, r211.at_, at139))
 else
 lett (decide (100 < e182)) fun look229 =>
 (bif look229 then
 lett (w64 (e182 - 100)) fun nv234 =>
 some nv234
 else
 some e182).bind fun nv230 =>
 lett ((((decide (0 ≤ nv230)) && (decide (nv230 ≤ 64))) && (decide (nv230 ≤ w64 ((all136.length : Int) - at139))))) fun is237 =>
 (bif look229 then
 (bitio_Reader_Look (bitio_Reader.mk c131 c134 c135) nv230).bind fun (r252, r253) =>
 some (c131, c134, c135, r252, r253)
 else
 (bitio_Reader_Take (bitio_Reader.mk c131 c134 c135) nv230).bind fun (r264, r265, r266) =>
 some (r266.b, r266.n, r266.at_, r264, r265)).bind fun (c239, c242, c243, v244, so245) =>
 (bif (!decide (so245 = is237)) then
 some true
 else
 (bif is237 then
 (slc all136 at139 (w64 (at139 + nv230))).bind fun t294 =>
 (ref01_Number t294).bind fun r299 =>
 some (!decide (v244 = r299))
 else
 some false).bind fun x287 =>
 some x287).bind fun x280 =>
 bif (x280 || ((!is237) && (!decide (v244 = 0)))) then
 outs (outs (outr (some false)))
 else
 bif (is237 && (!look229)) then
 lett (w64 (at139 + nv230)) fun at314 =>
 some (.go (c239, c242, c243, at314))
 else
 some (.go (c239, c242, c243, at139))) fun (c195, c198, c199, at200) =>
 (bitio_Reader_At (bitio_Reader.mk c195 c198 c199)).bind fun r319 =>
 (bif (!decide (r319 = at200)) then
 some true
 else
 (bitio_Reader_Left (bitio_Reader.mk c195 c198 c199)).bind fun r337 =>
 some (!decide (r337 = w64 ((all136.length : Int) - at200)))).bind fun x328 =>
 bif x328 then
 outs (outr (some false))
 else
 some (.go (c195, c198, c199, at200))) fun (c171, c174, c175, at176) =>
 lett (w64 (i140 + 1)) fun i355 =>
 some (.next (c171, c174, c175, all136, at176, i355))
 else
 some (.brk ())
noncomputable def law01_BitsTake (a0 : List UInt8) (a1 : List Int) : Option Bool :=
 (law01_awake).bind fun r13 =>
 bif (!r13) then
 some false
 else
 bif ((decide (200 < (a0.length : Int))) || (decide (100 < (a1.length : Int)))) then
 some true
 else
 (app [] a0).bind fun xs34 =>
 (bitio_NewReader xs34 (w64 (8 * (a0.length : Int)))).bind fun (r42, r43) =>
 bif (r42.isNone || (!decide (r43 = 0))) then
 some false
 else
 (flow (loop (law01_BitsTake_lp1) (xs34, 0)) fun (_ : Unit) =>
 some ()).bind fun (_ : Unit) =>
 (ref01_Bits a0).bind fun r111 =>
 (r42).bind fun d123 =>
 flow (loop (law01_BitsTake_lp2 a1) (d123.b, d123.n, d123.at_, r111, 0, 0)) fun (_ : Unit) =>
 some true

noncomputable def law01_some_lp1 (a0 : List law01_Put) : Int → Option (Rnd Int Unit Bool) := fun i14 =>
 bif decide (i14 < (a0.length : Int)) then
 (idx a0 i14).bind fun e22 =>
 bif decide (40 < (e22.B.length : Int)) then
 outr (some false)
 else
 lett (w64 (i14 + 1)) fun i38 =>
 some (.next i38)
 else
 some (.brk ())
noncomputable def law01_some (a0 : List law01_Put) : Option Bool :=
 bif decide (100 < (a0.length : Int)) then
 some false
 else
 flow (loop (law01_some_lp1 a0) 0) fun (_ : Unit) =>
 some true

noncomputable def ref01_Row_lp1 (a1 : Int) : (UInt64 × List Int × Int) → Option (Rnd (UInt64 × List Int × Int) (UInt64 × List Int) (List Int × Bool)) := fun (v14, out15, i18) =>
 bif decide (i18 < a1) then
 (app [w64 ((v14 % 2).toNat : Int)] out15).bind fun xs41 =>
 lett ((v14 / 2)) fun v48 =>
 lett (w64 (i18 + 1)) fun i49 =>
 some (.next (v48, xs41, i49))
 else
 some (.brk (v14, out15))
noncomputable def ref01_Row (a0 : UInt64) (a1 : Int) : Option (List Int × Bool) :=
 bif ((decide (a1 < 0)) || (decide (64 < a1))) then
 some ([], false)
 else
 flow (loop (ref01_Row_lp1 a1) (a0, [], 0)) fun (v22, out23) =>
 lett (decide (v22 = 0)) fun t56 =>
 some (out23, t56)

noncomputable def bitio_Writer_PutBits_lp1 (a1 : List UInt8) : (List UInt8 × Int × Int × Int) → Option (Rnd (List UInt8 × Int × Int × Int) (List UInt8 × Int) (Bool × bitio_Writer)) := fun (c18, c21, nv22, i23) =>
 bif decide (0 < nv22) then
 lett ((min nv22 8)) fun k42 =>
 (idx a1 i23).bind fun e43 =>
 (bitio_Writer_Put (bitio_Writer.mk c18 c21) ((shrB e43 ((toU64 (w64 (8 - k42))).toNat)).toUInt64) k42).bind fun (r56, r57) =>
 lett (w64 (nv22 - k42)) fun nv71 =>
 lett (w64 (i23 + 1)) fun i72 =>
 some (.next (r57.b, r57.n, nv71, i72))
 else
 some (.brk (c18, c21))
noncomputable def bitio_Writer_PutBits (a0 : bitio_Writer) (a1 : List UInt8) (a2 : Int) : Option (Bool × bitio_Writer) :=
 bif ((decide (a2 < 0)) || (decide (w64 (8 * (a1.length : Int)) < a2))) then
 some (false, a0)
 else
 flow (loop (bitio_Writer_PutBits_lp1 a1) (a0.b, a0.n, a2, 0)) fun (c28, c31) =>
 some (true, (bitio_Writer.mk c28 c31))

noncomputable def bitio_Writer_Cut (a0 : bitio_Writer) (a1 : Int) : Option (Bool × bitio_Writer) :=
 bif ((decide (a1 < 0)) || (decide (a0.n < a1))) then
 some (false, a0)
 else
 (slc a0.b 0 (w64 ((w64 (a1 + 7)).tdiv 8))).bind fun t16 =>
 (lett (a1.tmod 8) fun rest34 =>
 bif decide (0 < rest34) then
 (idx t16 (w64 ((t16.length : Int) - 1))).bind fun e41 =>
 (idx t16 (w64 ((t16.length : Int) - 1))).bind fun e51 =>
 lett ((e41 &&& (shlB (255 : UInt8) ((toU64 (w64 (8 - rest34))).toNat)))) fun t61 =>
 (setI t16 (w64 ((t16.length : Int) - 1)) t61).bind fun xs62 =>
 some xs62
 else
 some t16).bind fun c26 =>
 some (true, (bitio_Writer.mk c26 a1))

noncomputable def ref01_Bytes_lp2 (a0 : List Int) (i15 : Int) : (Int × Int) → Option (Rnd (Int × Int) Int Int) := fun (x36, k37) =>
 bif decide (k37 < 8) then
 (lett (w64 (2 * x36)) fun x49 =>
 bif decide (w64 (i15 + k37) < (a0.length : Int)) then
 (idx a0 (w64 (i15 + k37))).bind fun e51 =>
 lett (w64 (x49 + e51)) fun x63 =>
 some x63
 else
 some x49).bind fun x46 =>
 lett (w64 (k37 + 1)) fun k64 =>
 some (.next (x46, k64))
 else
 some (.brk x36)
noncomputable def ref01_Bytes_lp1 (a0 : List Int) : (List UInt8 × Int) → Option (Rnd (List UInt8 × Int) (List UInt8) (List UInt8)) := fun (out12, i15) =>
 bif decide (i15 < (a0.length : Int)) then
 (flow (loop (ref01_Bytes_lp2 a0 i15) (0, 0)) fun x38 =>
 some x38).bind fun x33 =>
 (app out12 [toU8 x33]).bind fun xs70 =>
 lett (w64 (i15 + 8)) fun i77 =>
 some (.next (xs70, i77))
 else
 some (.brk out12)
noncomputable def ref01_Bytes (a0 : List Int) : Option (List UInt8) :=
 flow (loop (ref01_Bytes_lp1 a0) ([], 0)) fun out19 =>
 some out19

noncomputable def law01_BitsPut_lp1 (a0 : List law01_Put) : (List UInt8 × Int × List Int × Int) → Option (Rnd (List UInt8 × Int × List Int × Int) Unit Bool) := fun (c51, c54, all55, i58) =>
 bif decide (i58 < (a0.length : Int)) then
 (idx a0 i58).bind fun e79 =>
 flow (lett (decide (e79.Kind = 0)) fun t119 =>
 bif t119 then
 (ref01_Row e79.V e79.N).bind fun (r121, r122) =>
 (bitio_Writer_Put (bitio_Writer.mk c51 c54) e79.V e79.N).bind fun (r141, r142) =>
 bif (!decide (r141 = r122)) then
 outs (outr (some false))
 else
 bif r122 then
 (app all55 r121).bind fun xs159 =>
 some (.go (r142.b, r142.n, xs159))
 else
 some (.go (r142.b, r142.n, all55))
 else
 lett (decide (e79.Kind = 1)) fun t196 =>
 bif t196 then
 lett (((decide (0 ≤ e79.N)) && (decide (e79.N ≤ w64 (8 * (e79.B.length : Int)))))) fun is200 =>
 (bitio_Writer_PutBits (bitio_Writer.mk c51 c54) e79.B e79.N).bind fun (r206, r207) =>
 bif (!decide (r206 = is200)) then
 outs (outr (some false))
 else
 bif is200 then
 (ref01_Bits e79.B).bind fun r249 =>
 (slc r249 0 e79.N).bind fun t261 =>
 (app all55 t261).bind fun xs271 =>
 some (.go (r207.b, r207.n, xs271))
 else
 some (.go (r207.b, r207.n, all55))
 else
 lett (decide (e79.Kind = 2)) fun t317 =>
 bif t317 then
 lett (((decide (0 ≤ e79.N)) && (decide (e79.N ≤ (all55.length : Int))))) fun is322 =>
 (bitio_Writer_Cut (bitio_Writer.mk c51 c54) e79.N).bind fun (r327, r328) =>
 bif (!decide (r327 = is322)) then
 outs (outr (some false))
 else
 bif is322 then
 (slc all55 0 e79.N).bind fun t352 =>
 (app [] t352).bind fun xs359 =>
 some (.go (r328.b, r328.n, xs359))
 else
 some (.go (r328.b, r328.n, all55))
 else
 some (.go (c51, c54, all55))) fun (c107, c110, all111) =>
 (bitio_Writer_Len (bitio_Writer.mk c107 c110)).bind fun r423 =>
 (bif (!decide (r423 = (all111.length : Int))) then
 some true
 else
 (bitio_Writer_Bytes (bitio_Writer.mk c107 c110)).bind fun r457 =>
 (ref01_Bytes all111).bind fun r476 =>
 some (!decide (r457 = r476))).bind fun x438 =>
 bif x438 then
 outr (some false)
 else
 lett (w64 (i58 + 1)) fun i500 =>
 some (.next (c107, c110, all111, i500))
 else
 some (.brk ())
noncomputable def law01_BitsPut (a0 : List law01_Put) : Option Bool :=
 (law01_awake).bind fun r12 =>
 bif (!r12) then
 some false
 else
 (law01_some a0).bind fun r24 =>
 bif (!r24) then
 some true
 else
 (bitio_NewWriter).bind fun r35 =>
 flow (loop (law01_BitsPut_lp1 a0) (r35.b, r35.n, [], 0)) fun (_ : Unit) =>
 some true

noncomputable def vary_sizes  : Option (List Int) :=
 some [0, 7, 20, 64]

noncomputable def vary_class_lp1 (a0 : UInt64) (r11 : List Int) : Int → Option (Rnd Int Unit Int) := fun x24 =>
 bif decide (x24 < 4) then
 (idx r11 x24).bind fun e32 =>
 bif decide (shrU a0 ((toU64 e32).toNat) = 0) then
 outr (some x24)
 else
 some (.next (w64 (x24 + 1)))
 else
 some (.brk ())
noncomputable def vary_class (a0 : UInt64) : Option Int :=
 (vary_sizes).bind fun r11 =>
 flow (loop (vary_class_lp1 a0 r11) 0) fun (_ : Unit) =>
 some 3

noncomputable def vary_Put (a0 : bitio_Writer) (a1 : UInt64) : Option bitio_Writer :=
 (vary_class a1).bind fun r13 =>
 (bitio_Writer_Put a0 (toU64 r13) 2).bind fun (r24, r25) =>
 (vary_sizes).bind fun r39 =>
 (idx r39 r13).bind fun e52 =>
 (bitio_Writer_Put r25 a1 e52).bind fun (r58, r59) =>
 some r59

noncomputable def vary_NewRow  : Option vary_Row :=
 some (vary_Row.mk 0 0 0)

noncomputable def vary_Row_Len (a0 : vary_Row) : Option Int :=
 some a0.n

noncomputable def pack_Zig (a0 : Int) : Option UInt64 :=
 lett (((shlU (toU64 a0) ((1 : UInt64).toNat)) ^^^ (toU64 (shrI a0 ((63 : UInt64).toNat))))) fun t11 =>
 some t11

noncomputable def vary_PutInt (a0 : bitio_Writer) (a1 : Int) : Option bitio_Writer :=
 (pack_Zig a1).bind fun r13 =>
 (vary_Put a0 r13).bind fun r24 =>
 some r24

noncomputable def vary_Row_follow (a0 : vary_Row) (a1 : UInt64) : Option vary_Row :=
 (bif decide (0 < a0.n) then
 lett ((a1 - a0.last)) fun t20 =>
 some t20
 else
 some a0.step).bind fun c13 =>
 lett (w64 (a0.n + 1)) fun t27 =>
 some (vary_Row.mk t27 a1 c13)

noncomputable def vary_widths  : Option (List Int) :=
 some [0, 6, 10, 16, 64]

noncomputable def vary_fits (a0 : Int) (a1 : Int) : Option Bool :=
 lett (decide (a1 = 0)) fun t11 =>
 bif t11 then
 lett (decide (a0 = 0)) fun t13 =>
 some t13
 else
 lett (decide (a1 = 64)) fun t15 =>
 bif t15 then
 some true
 else
 lett (((decide (shlI (-1) ((toU64 (w64 (a1 - 1))).toNat) ≤ a0)) && (decide (a0 < shlI 1 ((toU64 (w64 (a1 - 1))).toNat))))) fun t19 =>
 some t19

noncomputable def vary_way_lp1 (a0 : Int) (r11 : List Int) : Int → Option (Rnd Int Unit Int) := fun x24 =>
 bif decide (x24 < 5) then
 (idx r11 x24).bind fun e39 =>
 (vary_fits a0 e39).bind fun r43 =>
 bif r43 then
 outr (some x24)
 else
 some (.next (w64 (x24 + 1)))
 else
 some (.brk ())
noncomputable def vary_way (a0 : Int) : Option Int :=
 (vary_widths).bind fun r11 =>
 flow (loop (vary_way_lp1 a0 r11) 0) fun (_ : Unit) =>
 some 4

noncomputable def vary_Row_Put_lp1 (r60 : Int) : (List UInt8 × Int × Int) → Option (Rnd (List UInt8 × Int × Int) (List UInt8 × Int) (List UInt8 × Int)) := fun (c80, c83, x84) =>
 bif decide (x84 < r60) then
 (bitio_Writer_Put (bitio_Writer.mk c80 c83) (1 : UInt64) 1).bind fun (r107, r108) =>
 some (.next (r108.b, r108.n, w64 (x84 + 1)))
 else
 some (.brk (c80, c83))
noncomputable def vary_Row_Put (a0 : vary_Row) (a1 : bitio_Writer) (a2 : Int) : Option (vary_Row × bitio_Writer) :=
 (lett (decide (a0.n = 0)) fun t24 =>
 bif t24 then
 (vary_PutInt a1 a2).bind fun r26 =>
 some (r26.b, r26.n)
 else
 lett (decide (a0.n = 1)) fun t40 =>
 bif t40 then
 (vary_PutInt a1 (w64 (((toU64 a2) - a0.last).toNat : Int))).bind fun r42 =>
 some (r42.b, r42.n)
 else
 lett (w64 ((((toU64 a2) - a0.last) - a0.step).toNat : Int)) fun d59 =>
 (vary_way d59).bind fun r60 =>
 (flow (loop (vary_Row_Put_lp1 r60) (a1.b, a1.n, 0)) fun (c89, c92) =>
 some (c89, c92)).bind fun (c70, c73) =>
 (bif decide (r60 < 4) then
 (bitio_Writer_Put (bitio_Writer.mk c70 c73) (0 : UInt64) 1).bind fun (r133, r134) =>
 some (r134.b, r134.n)
 else
 some (c70, c73)).bind fun (c123, c126) =>
 (vary_widths).bind fun r148 =>
 (idx r148 r60).bind fun e161 =>
 (bitio_Writer_Put (bitio_Writer.mk c123 c126) (shrU (shlU (toU64 d59) ((toU64 (w64 (64 - e161))).toNat)) ((toU64 (w64 (64 - e161))).toNat)) e161).bind fun (r167, r168) =>
 some (r168.b, r168.n)).bind fun (c15, c18) =>
 (vary_Row_follow a0 (toU64 a2)).bind fun r183 =>
 some (r183, (bitio_Writer.mk c15 c18))

noncomputable def law06_awake_lp1 : (List UInt8 × Int × Int × UInt64 × UInt64 × Int) → Option (Rnd (List UInt8 × Int × Int × UInt64 × UInt64 × Int) (List UInt8 × Int × Int × UInt64 × UInt64) (List UInt8 × Int × Int × UInt64 × UInt64)) := fun (c144, c147, c149, c150, c151, i152) =>
 bif decide (i152 < 4) then
 (idx [10, 20, 30, 31] i152).bind fun e189 =>
 (vary_Row_Put (vary_Row.mk c149 c150 c151) (bitio_Writer.mk c144 c147) e189).bind fun (r202, r203) =>
 lett (w64 (i152 + 1)) fun i219 =>
 some (.next (r203.b, r203.n, r202.n, r202.last, r202.step, i219))
 else
 some (.brk (c144, c147, c149, c150, c151))
noncomputable def law06_awake  : Option Bool :=
 (bitio_NewWriter).bind fun r11 =>
 (vary_NewRow).bind fun r26 =>
 (vary_Put r11 (5 : UInt64)).bind fun r40 =>
 (bitio_Writer_Len r40).bind fun r54 =>
 (bif (!decide (r54 = 9)) then
 some true
 else
 (bitio_Writer_Bytes r40).bind fun r72 =>
 some (!decide (r72 = [66, 128]))).bind fun x63 =>
 (bif x63 then
 some (r40.b, r40.n, true)
 else
 (bitio_Writer_Cut r40 0).bind fun (r108, r109) =>
 some (r109.b, r109.n, (!r108))).bind fun (c85, c88, x89) =>
 bif x89 then
 some false
 else
 (flow (loop (law06_awake_lp1) (c85, c88, r26.n, r26.last, r26.step, 0)) fun (c157, c160, c162, c163, c164) =>
 some (c157, c160, c162, c163, c164)).bind fun (c130, c133, c135, c136, c137) =>
 (bitio_Writer_Len (bitio_Writer.mk c130 c133)).bind fun r230 =>
 (bif decide (r230 = 27) then
 (vary_Row_Len (vary_Row.mk c135 c136 c137)).bind fun r247 =>
 some (decide (r247 = 4))
 else
 some false).bind fun x239 =>
 (bif x239 then
 (bitio_Writer_Bytes (bitio_Writer.mk c130 c133)).bind fun r267 =>
 some (decide (r267 = [74, 37, 22, 224]))
 else
 some false).bind fun x256 =>
 some x256

noncomputable def ref06_size (a0 : Int) : Option Int :=
 (idx [0, 7, 20, 64] a0).bind fun e16 =>
 some e16

noncomputable def ref06_power_lp1 (a0 : Int) : (UInt64 × Int) → Option (Rnd (UInt64 × Int) UInt64 UInt64) := fun (p11, i12) =>
 bif decide (i12 < a0) then
 lett (((2 : UInt64) * p11)) fun p21 =>
 lett (w64 (i12 + 1)) fun i22 =>
 some (.next (p21, i22))
 else
 some (.brk p11)
noncomputable def ref06_power (a0 : Int) : Option UInt64 :=
 flow (loop (ref06_power_lp1 a0) (1, 0)) fun p13 =>
 some p13

noncomputable def ref06_Class_lp1 (a0 : UInt64) : Int → Option (Rnd Int Unit Int) := fun c11 =>
 bif decide (c11 < 3) then
 (ref06_size c11).bind fun r25 =>
 (ref06_power r25).bind fun r34 =>
 bif decide (a0 < r34) then
 outr (some c11)
 else
 lett (w64 (c11 + 1)) fun c45 =>
 some (.next c45)
 else
 some (.brk ())
noncomputable def ref06_Class (a0 : UInt64) : Option Int :=
 flow (loop (ref06_Class_lp1 a0) 0) fun (_ : Unit) =>
 some 3

noncomputable def ref06_Small (a0 : UInt64) : Option (List Int) :=
 (ref06_Class a0).bind fun r11 =>
 (ref01_Row (toU64 r11) 2).bind fun (r20, r21) =>
 (ref06_size r11).bind fun r33 =>
 (ref01_Row a0 r33).bind fun (r42, r43) =>
 (app r20 r42).bind fun xs55 =>
 some xs55

noncomputable def ref02_Zig (a0 : Int) : Option UInt64 :=
 bif decide (0 ≤ a0) then
 lett (((2 : UInt64) * (toU64 a0))) fun t12 =>
 some t12
 else
 lett ((((2 : UInt64) * (toU64 (w64 ((-1) - a0)))) + 1)) fun t14 =>
 some t14

noncomputable def law06_VarySmall_lp1 (a0 : List UInt64) : (List UInt8 × Int × List UInt8 × Int × List Int × List Int × Int) → Option (Rnd (List UInt8 × Int × List UInt8 × Int × List Int × List Int × Int) (List UInt8 × Int × List UInt8 × Int × List Int × List Int) (List UInt8 × Int × List UInt8 × Int × List Int × List Int)) := fun (c78, c81, c83, c86, a87, b90, i93) =>
 bif decide (i93 < (a0.length : Int)) then
 (idx a0 i93).bind fun e140 =>
 (vary_Put (bitio_Writer.mk c78 c81) e140).bind fun r152 =>
 (idx a0 i93).bind fun e166 =>
 (vary_PutInt (bitio_Writer.mk c83 c86) (w64 (e166.toNat : Int))).bind fun r181 =>
 (idx a0 i93).bind fun e195 =>
 (ref06_Small e195).bind fun r208 =>
 (app a87 r208).bind fun xs220 =>
 (idx a0 i93).bind fun e229 =>
 (ref02_Zig (w64 (e229.toNat : Int))).bind fun r243 =>
 (ref06_Small r243).bind fun r252 =>
 (app b90 r252).bind fun xs264 =>
 lett (w64 (i93 + 1)) fun i276 =>
 some (.next (r152.b, r152.n, r181.b, r181.n, xs220, xs264, i276))
 else
 some (.brk (c78, c81, c83, c86, a87, b90))
noncomputable def law06_VarySmall (a0 : List UInt64) : Option Bool :=
 (law06_awake).bind fun r12 =>
 bif (!r12) then
 some false
 else
 bif decide (60 < (a0.length : Int)) then
 some true
 else
 (bitio_NewWriter).bind fun r26 =>
 (bitio_NewWriter).bind fun r41 =>
 (flow (loop (law06_VarySmall_lp1 a0) (r26.b, r26.n, r41.b, r41.n, [], [], 0)) fun (c98, c101, c103, c106, a107, b110) =>
 some (c98, c101, c103, c106, a107, b110)).bind fun (c57, c60, c62, c65, a66, b69) =>
 (bitio_Writer_Len (bitio_Writer.mk c57 c60)).bind fun r381 =>
 (bif decide (r381 = (a66.length : Int)) then
 (bitio_Writer_Bytes (bitio_Writer.mk c57 c60)).bind fun r412 =>
 (ref01_Bytes a66).bind fun r431 =>
 some (decide (r412 = r431))
 else
 some false).bind fun x396 =>
 (bif x396 then
 (bitio_Writer_Len (bitio_Writer.mk c62 c65)).bind fun r486 =>
 some (decide (r486 = (b69.length : Int)))
 else
 some false).bind fun x459 =>
 (bif x459 then
 (bitio_Writer_Bytes (bitio_Writer.mk c62 c65)).bind fun r529 =>
 (ref01_Bytes b69).bind fun r550 =>
 some (decide (r529 = r550))
 else
 some false).bind fun x507 =>
 some x507

noncomputable def ref06_GetSmall (a0 : List Int) : Option ref06_Got :=
 bif decide ((a0.length : Int) < 2) then
 some (ref06_Got.mk 0 0 2)
 else
 (idx a0 0).bind fun e25 =>
 (idx a0 1).bind fun e38 =>
 lett (w64 ((w64 (2 * e25)) + e38)) fun c50 =>
 (ref06_size c50).bind fun r51 =>
 bif decide (w64 ((a0.length : Int) - 2) < r51) then
 some (ref06_Got.mk 0 0 2)
 else
 (slc a0 2 (w64 (2 + r51))).bind fun t68 =>
 (ref01_Number t68).bind fun r72 =>
 (ref06_Class r72).bind fun r81 =>
 bif (!decide (r81 = c50)) then
 some (ref06_Got.mk 0 0 3)
 else
 some (ref06_Got.mk r72 (w64 (2 + r51)) 0)

noncomputable def vary_wide (a0 : bitio_Reader) (a1 : Int) : Option UInt64 :=
 (bitio_Reader_Look a0 64).bind fun (r13, r14) =>
 (bitio_Reader_Skip a0 64).bind fun (r39, r40) =>
 (bitio_Reader_Look r40 a1).bind fun (r54, r55) =>
 lett (((shlU r13 ((toU64 a1).toNat)) ||| r54)) fun t64 =>
 some t64

noncomputable def vary_Get (a0 : bitio_Reader) : Option (UInt64 × Int × bitio_Reader) :=
 (bitio_Reader_Look a0 2).bind fun (r13, r14) =>
 bif (!r14) then
 some (0, 2, a0)
 else
 (vary_sizes).bind fun r27 =>
 (idx r27 (r13.toNat : Int)).bind fun e40 =>
 (bitio_Reader_Left a0).bind fun r48 =>
 bif decide (r48 < w64 (2 + e40)) then
 some (0, 2, a0)
 else
 (bitio_Reader_Look a0 (min (w64 (2 + e40)) 64)).bind fun (r63, r64) =>
 (bif decide (e40 < 64) then
 lett ((r63 &&& ((shlU (1 : UInt64) ((toU64 e40).toNat)) - 1))) fun v80 =>
 some v80
 else
 (vary_wide a0 2).bind fun r83 =>
 some r83).bind fun v73 =>
 (vary_class v73).bind fun r92 =>
 bif (!decide (r92 = w64 (r13.toNat : Int))) then
 some (0, 3, a0)
 else
 (bitio_Reader_Skip a0 (w64 (2 + e40))).bind fun (r115, r116) =>
 some (v73, 0, r116)

noncomputable def pack_Zag (a0 : UInt64) : Option Int :=
 lett (xorI (w64 ((shrU a0 ((1 : UInt64).toNat)).toNat : Int)) (w64 (0 - (w64 ((a0 &&& 1).toNat : Int))))) fun t11 =>
 some t11

noncomputable def vary_GetInt (a0 : bitio_Reader) : Option (Int × Int × bitio_Reader) :=
 (vary_Get a0).bind fun (r13, r14, r15) =>
 (pack_Zag r13).bind fun r29 =>
 some (r29, r14, r15)

noncomputable def ref02_Zag (a0 : UInt64) : Option Int :=
 bif decide ((a0 % 2) = 0) then
 lett (w64 ((a0 / 2).toNat : Int)) fun t12 =>
 some t12
 else
 lett (w64 ((-1) - (w64 ((a0 / 2).toNat : Int)))) fun t14 =>
 some t14

noncomputable def law06_VaryReads_lp1 (a1 : List Bool) : (List UInt8 × Int × Int × List Int × Int × Int) → Option (Rnd (List UInt8 × Int × Int × List Int × Int × Int) Unit Bool) := fun (c65, c68, c69, l70, at73, i74) =>
 bif decide (i74 < (a1.length : Int)) then
 flow ((slc l70 at73 (l70.length : Int)).bind fun t111 =>
 (ref06_GetSmall t111).bind fun r115 =>
 flow ((idx a1 i74).bind fun e143 =>
 bif e143 then
 (vary_GetInt (bitio_Reader.mk c65 c68 c69)).bind fun (r165, r166, r167) =>
 (ref02_Zag r115.V).bind fun r182 =>
 bif ((!decide (r165 = r182)) || (!decide (r166 = r115.E))) then
 outs (outs (outr (some false)))
 else
 some (.go (r167.b, r167.n, r167.at_))
 else
 (vary_Get (bitio_Reader.mk c65 c68 c69)).bind fun (r203, r204, r205) =>
 bif ((!decide (r203 = r115.V)) || (!decide (r204 = r115.E))) then
 outs (outs (outr (some false)))
 else
 some (.go (r205.b, r205.n, r205.at_))) fun (c133, c136, c137) =>
 lett (w64 (at73 + r115.N)) fun at224 =>
 (bitio_Reader_At (bitio_Reader.mk c133 c136 c137)).bind fun r225 =>
 bif (!decide (r225 = at224)) then
 outs (outr (some false))
 else
 some (.go (c133, c136, c137, at224))) fun (c100, c103, c104, at105) =>
 lett (w64 (i74 + 1)) fun i238 =>
 some (.next (c100, c103, c104, l70, at105, i238))
 else
 some (.brk ())
noncomputable def law06_VaryReads (a0 : List UInt8) (a1 : List Bool) : Option Bool :=
 (law06_awake).bind fun r13 =>
 bif (!r13) then
 some false
 else
 bif ((decide (60 < (a0.length : Int))) || (decide (60 < (a1.length : Int)))) then
 some true
 else
 (bitio_NewReader a0 (w64 (8 * (a0.length : Int)))).bind fun (r29, r30) =>
 bif (r29.isNone || (!decide (r30 = 0))) then
 some false
 else
 (ref01_Bits a0).bind fun r45 =>
 (r29).bind fun d57 =>
 flow (loop (law06_VaryReads_lp1 a1) (d57.b, d57.n, d57.at_, r45, 0, 0)) fun (_ : Unit) =>
 some true

noncomputable def ref06_width (a0 : Int) : Option Int :=
 (idx [0, 6, 10, 16, 64] a0).bind fun e16 =>
 some e16

noncomputable def ref06_Way_lp1 (a0 : Int) : Int → Option (Rnd Int Unit Int) := fun k13 =>
 bif decide (k13 < 4) then
 (ref06_width k13).bind fun r27 =>
 (ref06_power (w64 (r27 - 1))).bind fun r36 =>
 lett (w64 (r36.toNat : Int)) fun half45 =>
 bif ((decide (w64 (0 - half45) ≤ a0)) && (decide (a0 < half45))) then
 outr (some k13)
 else
 lett (w64 (k13 + 1)) fun k49 =>
 some (.next k49)
 else
 some (.brk ())
noncomputable def ref06_Way (a0 : Int) : Option Int :=
 bif decide (a0 = 0) then
 some 0
 else
 flow (loop (ref06_Way_lp1 a0) 1) fun (_ : Unit) =>
 some 4

noncomputable def ref06_GetStep_lp1 (a0 : List Int) : Int → Option (Rnd Int Int Int) := fun k20 =>
 (bif ((decide (k20 < 4)) && (decide (k20 < (a0.length : Int)))) then
 (idx a0 k20).bind fun e34 =>
 some (decide (e34 = 1))
 else
 some false).bind fun x30 =>
 bif x30 then
 lett (w64 (k20 + 1)) fun k48 =>
 some (.next k48)
 else
 some (.brk k20)
noncomputable def ref06_GetStep (a0 : List Int) : Option ref06_Got :=
 (flow (loop (ref06_GetStep_lp1 a0) 0) fun k21 =>
 some k21).bind fun k17 =>
 flow (bif decide (k17 < 4) then
 bif decide (k17 = (a0.length : Int)) then
 outs (some (ref06_Got.mk 0 0 2))
 else
 lett (w64 (k17 + 1)) fun at59 =>
 some (.go at59)
 else
 some (.go k17)) fun at49 =>
 (ref06_width k17).bind fun r60 =>
 bif decide (w64 ((a0.length : Int) - at49) < r60) then
 some (ref06_Got.mk 0 0 2)
 else
 (slc a0 at49 (w64 (at49 + r60))).bind fun t77 =>
 (ref01_Number t77).bind fun r81 =>
 ((bif ((decide (0 < k17)) && (decide (k17 < 4))) then
 (ref06_power (w64 (r60 - 1))).bind fun r104 =>
 some (decide (r104 ≤ r81))
 else
 some false).bind fun x97 =>
 bif x97 then
 (ref06_power r60).bind fun r114 =>
 lett ((r81 - r114)) fun v123 =>
 some v123
 else
 some r81).bind fun v90 =>
 (ref06_Way (w64 (v90.toNat : Int))).bind fun r124 =>
 bif (!decide (r124 = k17)) then
 some (ref06_Got.mk 0 0 3)
 else
 some (ref06_Got.mk v90 (w64 (at49 + r60)) 0)

noncomputable def ref06_Next (a0 : List Int) (a1 : List Int) : Option ref06_Got :=
 lett ((a0.length : Int)) fun nv19 =>
 bif decide (nv19 < 2) then
 (ref06_GetSmall a1).bind fun r22 =>
 bif (!decide (r22.E = 0)) then
 some r22
 else
 (ref02_Zag r22.V).bind fun r47 =>
 lett (toU64 r47) fun v56 =>
 (bif decide (nv19 = 1) then
 (idx a0 0).bind fun e61 =>
 lett ((v56 + (toU64 e61))) fun v77 =>
 some v77
 else
 some v56).bind fun v57 =>
 some (ref06_Got.mk v57 r22.N 0)
 else
 (ref06_GetStep a1).bind fun r88 =>
 bif (!decide (r88.E = 0)) then
 some r88
 else
 (idx a0 (w64 (nv19 - 1))).bind fun e116 =>
 (idx a0 (w64 (nv19 - 2))).bind fun e132 =>
 some (ref06_Got.mk ((r88.V + ((2 : UInt64) * (toU64 e116))) - (toU64 e132)) r88.N 0)

noncomputable def vary_step_lp1 (a0 : bitio_Reader) : (List UInt8 × Int × Int × Int) → Option (Rnd (List UInt8 × Int × Int × Int) (List UInt8 × Int × Int × Int) (Flow (List UInt8 × Int × Int × Int) (Int × Int × bitio_Reader))) := fun (c39, c42, c43, k44) =>
 bif decide (k44 < 4) then
 (bitio_Reader_Take (bitio_Reader.mk c39 c42 c43) 1).bind fun (r66, r67, r68) =>
 bif (!r67) then
 outr (outs (some (0, 2, a0)))
 else
 bif decide (r66 = 0) then
 some (.brk (r68.b, r68.n, r68.at_, k44))
 else
 lett (w64 (k44 + 1)) fun k92 =>
 some (.next (r68.b, r68.n, r68.at_, k92))
 else
 some (.brk (c39, c42, c43, k44))
noncomputable def vary_step (a0 : bitio_Reader) : Option (Int × Int × bitio_Reader) :=
 flow (flow (loop (vary_step_lp1 a0) (a0.b, a0.n, a0.at_, 0)) fun (c49, c52, c53, k54) =>
 some (.go (c49, c52, c53, k54))) fun (c27, c30, c31, k32) =>
 (vary_widths).bind fun r93 =>
 (idx r93 k32).bind fun e106 =>
 (bitio_Reader_Take (bitio_Reader.mk c27 c30 c31) e106).bind fun (r112, r113, r114) =>
 bif (!r113) then
 some (0, 2, a0)
 else
 lett (shrI (w64 ((shlU r112 ((toU64 (w64 (64 - e106))).toNat)).toNat : Int)) ((toU64 (w64 (64 - e106))).toNat)) fun d139 =>
 (vary_way d139).bind fun r140 =>
 bif (!decide (r140 = k32)) then
 some (0, 3, a0)
 else
 (bitio_Reader_At r114).bind fun r164 =>
 (bitio_Reader_At a0).bind fun r186 =>
 (bitio_Reader_Skip a0 (w64 (r164 - r186))).bind fun (r197, r198) =>
 some (d139, 0, r198)

noncomputable def vary_Row_Get (a0 : vary_Row) (a1 : bitio_Reader) : Option (Int × Int × vary_Row × bitio_Reader) :=
 flow (bif decide (a0.n < 2) then
 (vary_GetInt a1).bind fun (r27, r28, r29) =>
 bif (!decide (r28 = 0)) then
 outs (some (0, r28, a0, r29))
 else
 lett ((a0.last + (toU64 r27))) fun v47 =>
 some (.go (r29.b, r29.n, r29.at_, v47))
 else
 (vary_step a1).bind fun (r48, r49, r50) =>
 bif (!decide (r49 = 0)) then
 outs (some (0, r49, a0, r50))
 else
 lett (((a0.last + a0.step) + (toU64 r48))) fun v71 =>
 some (.go (r50.b, r50.n, r50.at_, v71))) fun (c15, c18, c19, v20) =>
 (vary_Row_follow a0 v20).bind fun r75 =>
 lett (w64 (v20.toNat : Int)) fun t86 =>
 some (t86, 0, r75, (bitio_Reader.mk c15 c18 c19))

noncomputable def law06_VaryTakes_lp1 (a1 : Int) : (List UInt8 × Int × Int × List Int × Int × UInt64 × UInt64 × List Int × Int × Int) → Option (Rnd (List UInt8 × Int × Int × List Int × Int × UInt64 × UInt64 × List Int × Int × Int) (List Int × List Int × Int) (Flow (List Int × List Int × Int) Bool)) := fun (c87, c90, c91, l92, c96, c97, c98, row99, at102, i103) =>
 bif decide (i103 < a1) then
 (slc l92 at102 (l92.length : Int)).bind fun t135 =>
 (ref06_Next row99 t135).bind fun r139 =>
 (vary_Row_Get (vary_Row.mk c96 c97 c98) (bitio_Reader.mk c87 c90 c91)).bind fun (r165, r166, r167, r168) =>
 (bif ((!decide (r166 = r139.E)) || (!decide (toU64 r165 = r139.V))) then
 some true
 else
 (bitio_Reader_At r168).bind fun r264 =>
 some (!decide (r264 = w64 (at102 + r139.N)))).bind fun x233 =>
 bif x233 then
 outr (outs (some false))
 else
 bif (!decide (r166 = 0)) then
 (vary_Row_Get r167 r168).bind fun (r288, r289, r290, r291) =>
 (bif (!decide (r289 = r139.E)) then
 some true
 else
 (vary_Row_Len r290).bind fun r318 =>
 some (!decide (r318 = (row99.length : Int)))).bind fun x311 =>
 bif x311 then
 outr (outs (some false))
 else
 some (.brk (l92, row99, at102))
 else
 lett (w64 (at102 + r139.N)) fun at360 =>
 (app row99 [r165]).bind fun xs366 =>
 lett (w64 (i103 + 1)) fun i379 =>
 some (.next (r168.b, r168.n, r168.at_, l92, r167.n, r167.last, r167.step, xs366, at360, i379))
 else
 some (.brk (l92, row99, at102))
noncomputable def law06_VaryTakes_lp2 (row70 : List Int) : (List UInt8 × Int × Int × UInt64 × UInt64 × Int) → Option (Rnd (List UInt8 × Int × Int × UInt64 × UInt64 × Int) (List UInt8 × Int) (List UInt8 × Int)) := fun (c446, c449, c451, c452, c453, i454) =>
 bif decide (i454 < (row70.length : Int)) then
 (idx row70 i454).bind fun e483 =>
 (vary_Row_Put (vary_Row.mk c451 c452 c453) (bitio_Writer.mk c446 c449) e483).bind fun (r493, r494) =>
 lett (w64 (i454 + 1)) fun i510 =>
 some (.next (r494.b, r494.n, r493.n, r493.last, r493.step, i510))
 else
 some (.brk (c446, c449))
noncomputable def law06_VaryTakes (a0 : List UInt8) (a1 : Int) : Option Bool :=
 (law06_awake).bind fun r12 =>
 bif (!r12) then
 some false
 else
 bif (((decide (60 < (a0.length : Int))) || (decide (a1 < 0))) || (decide (100 < a1))) then
 some true
 else
 (bitio_NewReader a0 (w64 (8 * (a0.length : Int)))).bind fun (r28, r29) =>
 bif r28.isNone then
 some false
 else
 (ref01_Bits a0).bind fun r43 =>
 (vary_NewRow).bind fun r55 =>
 flow ((r28).bind fun d79 =>
 flow (loop (law06_VaryTakes_lp1 a1) (d79.b, d79.n, d79.at_, r43, r55.n, r55.last, r55.step, [], 0, 0)) fun (l107, row110, at113) =>
 some (.go (l107, row110, at113))) fun (l67, row70, at73) =>
 (bitio_NewWriter).bind fun r408 =>
 (vary_NewRow).bind fun r423 =>
 (flow (loop (law06_VaryTakes_lp2 row70) (r408.b, r408.n, r423.n, r423.last, r423.step, 0)) fun (c459, c462) =>
 some (c459, c462)).bind fun (c436, c439) =>
 (bitio_Writer_Len (bitio_Writer.mk c436 c439)).bind fun r529 =>
 (bif decide (r529 = at73) then
 (slc l67 0 at73).bind fun t561 =>
 (bitio_Writer_Bytes (bitio_Writer.mk c436 c439)).bind fun r575 =>
 (ref01_Bytes t561).bind fun r592 =>
 some (decide (r575 = r592))
 else
 some false).bind fun x544 =>
 some x544

noncomputable def vary_Row_Clone (a0 : vary_Row) : Option vary_Row :=
 some a0

noncomputable def ref06_Step_lp1 (r11 : Int) : (List Int × Int) → Option (Rnd (List Int × Int) (List Int) (List Int)) := fun (out28, i31) =>
 bif decide (i31 < r11) then
 (app out28 [1]).bind fun xs53 =>
 lett (w64 (i31 + 1)) fun i60 =>
 some (.next (xs53, i60))
 else
 some (.brk out28)
noncomputable def ref06_Step (a0 : Int) : Option (List Int) :=
 (ref06_Way a0).bind fun r11 =>
 (flow (loop (ref06_Step_lp1 r11) ([], 0)) fun out35 =>
 some out35).bind fun out20 =>
 (bif decide (r11 < 4) then
 (app out20 [0]).bind fun xs81 =>
 some xs81
 else
 some out20).bind fun out67 =>
 lett (toU64 a0) fun v94 =>
 (bif decide (r11 < 4) then
 (ref06_width r11).bind fun r102 =>
 (ref06_power r102).bind fun r111 =>
 chk ((!decide (r111 = 0))) <|
 lett ((v94 % r111)) fun v121 =>
 some v121
 else
 some v94).bind fun v95 =>
 (ref06_width r11).bind fun r122 =>
 (ref01_Row v95 r122).bind fun (r131, r132) =>
 (app out67 r131).bind fun xs144 =>
 some xs144

noncomputable def ref06_Row_lp1 (a0 : List Int) : (List Int × Int) → Option (Rnd (List Int × Int) (List Int) (List Int)) := fun (out12, i15) =>
 bif decide (i15 < (a0.length : Int)) then
 (lett (decide (i15 = 0)) fun t41 =>
 bif t41 then
 (idx a0 0).bind fun e43 =>
 (ref02_Zig e43).bind fun r55 =>
 (ref06_Small r55).bind fun r64 =>
 (app out12 r64).bind fun xs76 =>
 some xs76
 else
 lett (decide (i15 = 1)) fun t87 =>
 bif t87 then
 (idx a0 1).bind fun e97 =>
 (idx a0 0).bind fun e123 =>
 (ref02_Zig (w64 (((toU64 e97) - (toU64 e123)).toNat : Int))).bind fun r151 =>
 (ref06_Small r151).bind fun r160 =>
 (app out12 r160).bind fun xs172 =>
 some xs172
 else
 (idx a0 i15).bind fun e198 =>
 (idx a0 (w64 (i15 - 1))).bind fun e230 =>
 (idx a0 (w64 (i15 - 2))).bind fun e267 =>
 (ref06_Step (w64 ((((toU64 e198) - ((2 : UInt64) * (toU64 e230))) + (toU64 e267)).toNat : Int))).bind fun r295 =>
 (app out12 r295).bind fun xs307 =>
 some xs307).bind fun out33 =>
 lett (w64 (i15 + 1)) fun i321 =>
 some (.next (out33, i321))
 else
 some (.brk out12)
noncomputable def ref06_Row (a0 : List Int) : Option (List Int) :=
 flow (loop (ref06_Row_lp1 a0) ([], 0)) fun out19 =>
 some out19

noncomputable def law06_VaryRows_lp1 (a0 : List Int) (a1 : Int) : (List UInt8 × Int × Int × UInt64 × UInt64 × Int) → Option (Rnd (List UInt8 × Int × Int × UInt64 × UInt64 × Int) (List UInt8 × Int) (Flow (List UInt8 × Int) Bool)) := fun (c64, c67, c69, c70, c71, i72) =>
 bif decide (i72 < (a0.length : Int)) then
 (vary_Row_Clone (vary_Row.mk c69 c70 c71)).bind fun r101 =>
 (bitio_NewWriter).bind fun r113 =>
 (vary_Row_Put r101 r113 a1).bind fun (r129, r130) =>
 (idx a0 i72).bind fun e146 =>
 (vary_Row_Put (vary_Row.mk c69 c70 c71) (bitio_Writer.mk c64 c67) e146).bind fun (r170, r171) =>
 (vary_Row_Len r129).bind fun r188 =>
 (bif (!decide (r188 = w64 (i72 + 1))) then
 some true
 else
 (vary_Row_Len r170).bind fun r205 =>
 some (!decide (r205 = w64 (i72 + 1)))).bind fun x197 =>
 bif x197 then
 outr (outs (some false))
 else
 lett (w64 (i72 + 1)) fun i216 =>
 some (.next (r171.b, r171.n, r170.n, r170.last, r170.step, i216))
 else
 some (.brk (c64, c67))
noncomputable def law06_VaryRows_lp2 (a0 : List Int) : (Int × UInt64 × UInt64 × List UInt8 × Int × Int × Int) → Option (Rnd (Int × UInt64 × UInt64 × List UInt8 × Int × Int × Int) (List UInt8 × Int × Int) (Flow (List UInt8 × Int × Int) Bool)) := fun (c414, c415, c416, c418, c421, c422, i423) =>
 bif decide (i423 < (a0.length : Int)) then
 (vary_Row_Get (vary_Row.mk c414 c415 c416) (bitio_Reader.mk c418 c421 c422)).bind fun (r454, r455, r456, r457) =>
 (idx a0 i423).bind fun e473 =>
 bif ((!decide (r454 = e473)) || (!decide (r455 = 0))) then
 outr (outs (some false))
 else
 lett (w64 (i423 + 1)) fun i489 =>
 some (.next (r456.n, r456.last, r456.step, r457.b, r457.n, r457.at_, i489))
 else
 some (.brk (c418, c421, c422))
noncomputable def law06_VaryRows (a0 : List Int) (a1 : Int) : Option Bool :=
 (law06_awake).bind fun r12 =>
 bif (!r12) then
 some false
 else
 bif decide (60 < (a0.length : Int)) then
 some true
 else
 (bitio_NewWriter).bind fun r26 =>
 (vary_NewRow).bind fun r41 =>
 flow (flow (loop (law06_VaryRows_lp1 a0 a1) (r26.b, r26.n, r41.n, r41.last, r41.step, 0)) fun (c77, c80) =>
 some (.go (c77, c80))) fun (c54, c57) =>
 (ref06_Row a0).bind fun r234 =>
 (bitio_Writer_Len (bitio_Writer.mk c54 c57)).bind fun r263 =>
 (bif (!decide (r263 = (r234.length : Int))) then
 some true
 else
 (bitio_Writer_Bytes (bitio_Writer.mk c54 c57)).bind fun r297 =>
 (ref01_Bytes r234).bind fun r316 =>
 some (!decide (r297 = r316))).bind fun x278 =>
 bif x278 then
 some false
 else
 (bitio_Writer_Bytes (bitio_Writer.mk c54 c57)).bind fun r344 =>
 (bitio_Writer_Len (bitio_Writer.mk c54 c57)).bind fun r358 =>
 (bitio_NewReader r344 r358).bind fun (r368, r369) =>
 bif r368.isNone then
 some false
 else
 (vary_NewRow).bind fun r382 =>
 flow ((r368).bind fun d406 =>
 flow (loop (law06_VaryRows_lp2 a0) (r382.n, r382.last, r382.step, d406.b, d406.n, d406.at_, 0)) fun (c428, c431, c432) =>
 some (.go (c428, c431, c432))) fun (c396, c399, c400) =>
 (bitio_Reader_Left (bitio_Reader.mk c396 c399 c400)).bind fun r494 =>
 lett (decide (r494 = 0)) fun t503 =>
 some t503

def rep_bitio_Writer : Rep bitio_Writer := Rep.via (Rep.pair (Rep.sl Rep.b) Rep.i) fun d => (d.b, d.n)
def rep_bitio_Reader : Rep bitio_Reader := Rep.via (Rep.pair (Rep.sl Rep.b) (Rep.pair Rep.i Rep.i)) fun d => (d.b, d.n, d.at_)
def rep_law01_Put : Rep law01_Put := Rep.via (Rep.pair Rep.i (Rep.pair Rep.u (Rep.pair Rep.i (Rep.sl Rep.b)))) fun d => (d.Kind, d.V, d.N, d.B)
def rep_vary_Row : Rep vary_Row := Rep.via (Rep.pair Rep.i (Rep.pair Rep.u Rep.u)) fun d => (d.n, d.last, d.step)
theorem flat_vary_Row : Flat rep_vary_Row := Flat.via (Flat.pair Flat.i (Flat.pair Flat.u Flat.u)) _
def rep_ref06_Got : Rep ref06_Got := Rep.via (Rep.pair Rep.u (Rep.pair Rep.i Rep.i)) fun d => (d.V, d.N, d.E)
theorem flat_ref06_Got : Flat rep_ref06_Got := Flat.via (Flat.pair Flat.u (Flat.pair Flat.i Flat.i)) _
end Go.Lg
