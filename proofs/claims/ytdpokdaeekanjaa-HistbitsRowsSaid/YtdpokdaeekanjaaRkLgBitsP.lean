/- The plain functions, printed by gen.py. -/
import Derived.Test.YtdpokdaeekanjaaRkLgDraw
set_option linter.unusedVariables false
namespace Go.Lg
structure bitio_Writer where
  b : List UInt8
  n : Int
  deriving DecidableEq
structure bitio_Reader where
  b : List UInt8
  n : Int
  at_ : Int
  deriving DecidableEq
structure law01_Put where
  Kind : Int
  V : UInt64
  N : Int
  B : List UInt8
  deriving DecidableEq
structure vary_Row where
  n : Int
  last : UInt64
  step : UInt64
  deriving DecidableEq
structure ref06_Got where
  V : UInt64
  N : Int
  E : Int
  deriving DecidableEq
noncomputable def bitio_NewWriter  : Option bitio_Writer :=
 some (bitio_Writer.mk [] 0)
noncomputable def bitio_Writer_room (a0 : bitio_Writer) : Option Int :=
 lett (w64 ((w64 (8 * (a0.b.length : Int))) - a0.n)) fun t17 =>
 some t17
noncomputable def bitio_Writer_Put_lp1 (a1 : UInt64) : (List UInt8 × Int × Int) → Option (Rnd (List UInt8 × Int × Int) (List UInt8 × Int) (Bool × bitio_Writer)) := fun (c19, c22, nv23) =>
 bif decide (0 < nv23) then
 (((bitio_Writer_room (bitio_Writer.mk c19 c22)).bind fun r62 =>
 bif decide (r62 = 0) then
 (app c19 [0]).bind fun xs78 =>
 some xs78
 else
 some c19).bind fun c54 =>
 (bitio_Writer_room (bitio_Writer.mk c54 c22)).bind fun r98 =>
 lett ((min nv23 r98)) fun k107 =>
 lett (shrU a1 ((toU64 (w64 (nv23 - k107))).toNat)) fun piece108 =>
 (bif decide (k107 < 64) then
 lett ((piece108 &&& ((shlU (1 : UInt64) ((toU64 k107).toNat)) - 1))) fun piece113 =>
 some piece113
 else
 some piece108).bind fun piece109 =>
 (idx c54 (w64 ((c54.length : Int) - 1))).bind fun e120 =>
 (idx c54 (w64 ((c54.length : Int) - 1))).bind fun e130 =>
 lett ((e120 ||| ((shlU piece109 ((toU64 (w64 (r98 - k107))).toNat)).toUInt8))) fun t140 =>
 (setI c54 (w64 ((c54.length : Int) - 1)) t140).bind fun xs141 =>
 lett (w64 (c22 + k107)) fun t146 =>
 lett (w64 (nv23 - k107)) fun nv150 =>
 some (xs141, t146, nv150)).bind fun (c43, c46, nv47) =>
 some (.next (c43, c46, nv47))
 else
 some (.brk (c19, c22))
noncomputable def bitio_Writer_Put (a0 : bitio_Writer) (a1 : UInt64) (a2 : Int) : Option (Bool × bitio_Writer) :=
 bif (((decide (a2 < 0)) || (decide (64 < a2))) || ((decide (a2 < 64)) && (!decide (shrU a1 ((toU64 a2).toNat) = 0)))) then
 some (false, a0)
 else
 flow (loop (bitio_Writer_Put_lp1 a1) (a0.b, a0.n, a2)) fun (c28, c31) =>
 some (true, (bitio_Writer.mk c28 c31))
def bytes_Clone (a0 : List UInt8) : Option (List UInt8) := app [] a0
noncomputable def bitio_Writer_Bytes (a0 : bitio_Writer) : Option (List UInt8) :=
 (bytes_Clone a0.b).bind fun r13 =>
 some r13
noncomputable def bitio_NewReader (a0 : List UInt8) (a1 : Int) : Option (Option bitio_Reader × Int) :=
 lett (decide (a1 < 0)) fun t12 =>
 bif t12 then
 some (none, 1)
 else
 lett (((decide ((a0.length : Int) < w64 (a1.tdiv 8))) || ((decide ((a0.length : Int) = w64 (a1.tdiv 8))) && (decide (0 < a1.tmod 8))))) fun t17 =>
 bif t17 then
 some (none, 2)
 else
 lett (decide (w64 ((w64 (a1 + 7)).tdiv 8) < (a0.length : Int))) fun t20 =>
 bif t20 then
 some (none, 3)
 else
 (bif decide (0 < a1.tmod 8) then
 (idx a0 (w64 (a1.tdiv 8))).bind fun e27 =>
 some (!decide (shlB e27 ((toU64 (a1.tmod 8)).toNat) = 0))
 else
 some false).bind fun x23 =>
 bif x23 then
 some (none, 3)
 else
 (bytes_Clone a0).bind fun r41 =>
 some ((some (bitio_Reader.mk r41 a1 0)), 0)
noncomputable def bitio_Writer_Len (a0 : bitio_Writer) : Option Int :=
 some a0.n
noncomputable def bitio_Reader_Left (a0 : bitio_Reader) : Option Int :=
 lett (w64 (a0.n - a0.at_)) fun t16 =>
 some t16
noncomputable def bitio_Reader_Look_lp1 (a0 : bitio_Reader) : (Int × UInt64 × Int) → Option (Rnd (Int × UInt64 × Int) UInt64 (UInt64 × Bool)) := fun (nv33, v34, at35) =>
 bif decide (0 < nv33) then
 lett (w64 (8 - (at35.tmod 8))) fun free44 =>
 lett ((min nv33 free44)) fun k45 =>
 (idx a0.b (w64 (at35.tdiv 8))).bind fun e46 =>
 lett (((shrB e46 ((toU64 (w64 (free44 - k45))).toNat)) &&& ((shlB (1 : UInt8) ((toU64 k45).toNat)) - 1))) fun piece59 =>
 lett (((shlU v34 ((toU64 k45).toNat)) ||| piece59.toUInt64)) fun v60 =>
 lett (w64 (at35 + k45)) fun at61 =>
 lett (w64 (nv33 - k45)) fun nv62 =>
 some (.next (nv62, v60, at61))
 else
 some (.brk v34)
noncomputable def bitio_Reader_Look (a0 : bitio_Reader) (a1 : Int) : Option (UInt64 × Bool) :=
 (bif ((decide (a1 < 0)) || (decide (64 < a1))) then
 some true
 else
 (bitio_Reader_Left a0).bind fun r21 =>
 some (decide (r21 < a1))).bind fun x14 =>
 bif x14 then
 some (0, false)
 else
 flow (loop (bitio_Reader_Look_lp1 a0) (a1, 0, a0.at_)) fun v36 =>
 some (v36, true)
noncomputable def bitio_Reader_Take (a0 : bitio_Reader) (a1 : Int) : Option (UInt64 × Bool × bitio_Reader) :=
 (bitio_Reader_Look a0 a1).bind fun (r13, r14) =>
 bif r14 then
 lett (w64 (a0.at_ + a1)) fun t25 =>
 some (r13, r14, (bitio_Reader.mk a0.b a0.n t25))
 else
 some (r13, r14, a0)
noncomputable def bitio_Reader_At (a0 : bitio_Reader) : Option Int :=
 some a0.at_
noncomputable def bitio_Reader_Skip (a0 : bitio_Reader) (a1 : Int) : Option (Bool × bitio_Reader) :=
 (bif decide (a1 < 0) then
 some true
 else
 (bitio_Reader_Left a0).bind fun r20 =>
 some (decide (r20 < a1))).bind fun x13 =>
 bif x13 then
 some (false, a0)
 else
 lett (w64 (a0.at_ + a1)) fun t34 =>
 some (true, (bitio_Reader.mk a0.b a0.n t34))
noncomputable def ref01_Row_lp1 (a1 : Int) : (UInt64 × List Int × Int) → Option (Rnd (UInt64 × List Int × Int) (UInt64 × List Int) (List Int × Bool)) := fun (v14, out15, i18) =>
 bif decide (i18 < a1) then
 (app [w64 ((v14 % 2).toNat : Int)] out15).bind fun xs41 =>
 lett ((v14 / 2)) fun v48 =>
 lett (w64 (i18 + 1)) fun i49 =>
 some (.next (v48, xs41, i49))
 else
 some (.brk (v14, out15))
noncomputable def ref01_Row (a0 : UInt64) (a1 : Int) : Option (List Int × Bool) :=
 bif ((decide (a1 < 0)) || (decide (64 < a1))) then
 some ([], false)
 else
 flow (loop (ref01_Row_lp1 a1) (a0, [], 0)) fun (v22, out23) =>
 lett (decide (v22 = 0)) fun t56 =>
 some (out23, t56)
noncomputable def bitio_Writer_Cut (a0 : bitio_Writer) (a1 : Int) : Option (Bool × bitio_Writer) :=
 bif ((decide (a1 < 0)) || (decide (a0.n < a1))) then
 some (false, a0)
 else
 (slc a0.b 0 (w64 ((w64 (a1 + 7)).tdiv 8))).bind fun t16 =>
 (lett (a1.tmod 8) fun rest34 =>
 bif decide (0 < rest34) then
 (idx t16 (w64 ((t16.length : Int) - 1))).bind fun e41 =>
 (idx t16 (w64 ((t16.length : Int) - 1))).bind fun e51 =>
 lett ((e41 &&& (shlB (255 : UInt8) ((toU64 (w64 (8 - rest34))).toNat)))) fun t61 =>
 (setI t16 (w64 ((t16.length : Int) - 1)) t61).bind fun xs62 =>
 some xs62
 else
 some t16).bind fun c26 =>
 some (true, (bitio_Writer.mk c26 a1))
noncomputable def ref01_Bytes_lp2 (a0 : List Int) (i15 : Int) : (Int × Int) → Option (Rnd (Int × Int) Int Int) := fun (x36, k37) =>
 bif decide (k37 < 8) then
 (lett (w64 (2 * x36)) fun x49 =>
 bif decide (w64 (i15 + k37) < (a0.length : Int)) then
 (idx a0 (w64 (i15 + k37))).bind fun e51 =>
 lett (w64 (x49 + e51)) fun x63 =>
 some x63
 else
 some x49).bind fun x46 =>
 lett (w64 (k37 + 1)) fun k64 =>
 some (.next (x46, k64))
 else
 some (.brk x36)
noncomputable def ref01_Bytes_lp1 (a0 : List Int) : (List UInt8 × Int) → Option (Rnd (List UInt8 × Int) (List UInt8) (List UInt8)) := fun (out12, i15) =>
 bif decide (i15 < (a0.length : Int)) then
 (flow (loop (ref01_Bytes_lp2 a0 i15) (0, 0)) fun x38 =>
 some x38).bind fun x33 =>
 (app out12 [toU8 x33]).bind fun xs70 =>
 lett (w64 (i15 + 8)) fun i77 =>
 some (.next (xs70, i77))
 else
 some (.brk out12)
noncomputable def ref01_Bytes (a0 : List Int) : Option (List UInt8) :=
 flow (loop (ref01_Bytes_lp1 a0) ([], 0)) fun out19 =>
 some out19
noncomputable def vary_sizes  : Option (List Int) :=
 some [0, 7, 20, 64]
noncomputable def vary_class_lp1 (a0 : UInt64) (r11 : List Int) : Int → Option (Rnd Int Unit Int) := fun x24 =>
 bif decide (x24 < 4) then
 (idx r11 x24).bind fun e32 =>
 bif decide (shrU a0 ((toU64 e32).toNat) = 0) then
 outr (some x24)
 else
 some (.next (w64 (x24 + 1)))
 else
 some (.brk ())
noncomputable def vary_class (a0 : UInt64) : Option Int :=
 (vary_sizes).bind fun r11 =>
 flow (loop (vary_class_lp1 a0 r11) 0) fun (_ : Unit) =>
 some 3
noncomputable def vary_Put (a0 : bitio_Writer) (a1 : UInt64) : Option bitio_Writer :=
 (vary_class a1).bind fun r13 =>
 (bitio_Writer_Put a0 (toU64 r13) 2).bind fun (r24, r25) =>
 (vary_sizes).bind fun r39 =>
 (idx r39 r13).bind fun e52 =>
 (bitio_Writer_Put r25 a1 e52).bind fun (r58, r59) =>
 some r59
noncomputable def pack_Zig (a0 : Int) : Option UInt64 :=
 lett (((shlU (toU64 a0) ((1 : UInt64).toNat)) ^^^ (toU64 (shrI a0 ((63 : UInt64).toNat))))) fun t11 =>
 some t11
noncomputable def vary_PutInt (a0 : bitio_Writer) (a1 : Int) : Option bitio_Writer :=
 (pack_Zig a1).bind fun r13 =>
 (vary_Put a0 r13).bind fun r24 =>
 some r24
noncomputable def vary_Row_follow (a0 : vary_Row) (a1 : UInt64) : Option vary_Row :=
 (bif decide (0 < a0.n) then
 lett ((a1 - a0.last)) fun t20 =>
 some t20
 else
 some a0.step).bind fun c13 =>
 lett (w64 (a0.n + 1)) fun t27 =>
 some (vary_Row.mk t27 a1 c13)
noncomputable def vary_widths  : Option (List Int) :=
 some [0, 6, 10, 16, 64]
noncomputable def vary_fits (a0 : Int) (a1 : Int) : Option Bool :=
 lett (decide (a1 = 0)) fun t11 =>
 bif t11 then
 lett (decide (a0 = 0)) fun t13 =>
 some t13
 else
 lett (decide (a1 = 64)) fun t15 =>
 bif t15 then
 some true
 else
 lett (((decide (shlI (-1) ((toU64 (w64 (a1 - 1))).toNat) ≤ a0)) && (decide (a0 < shlI 1 ((toU64 (w64 (a1 - 1))).toNat))))) fun t19 =>
 some t19
noncomputable def vary_way_lp1 (a0 : Int) (r11 : List Int) : Int → Option (Rnd Int Unit Int) := fun x24 =>
 bif decide (x24 < 5) then
 (idx r11 x24).bind fun e39 =>
 (vary_fits a0 e39).bind fun r43 =>
 bif r43 then
 outr (some x24)
 else
 some (.next (w64 (x24 + 1)))
 else
 some (.brk ())
noncomputable def vary_way (a0 : Int) : Option Int :=
 (vary_widths).bind fun r11 =>
 flow (loop (vary_way_lp1 a0 r11) 0) fun (_ : Unit) =>
 some 4
noncomputable def vary_Row_Put_lp1 (r60 : Int) : (List UInt8 × Int × Int) → Option (Rnd (List UInt8 × Int × Int) (List UInt8 × Int) (List UInt8 × Int)) := fun (c80, c83, x84) =>
 bif decide (x84 < r60) then
 (bitio_Writer_Put (bitio_Writer.mk c80 c83) (1 : UInt64) 1).bind fun (r107, r108) =>
 some (.next (r108.b, r108.n, w64 (x84 + 1)))
 else
 some (.brk (c80, c83))
noncomputable def vary_Row_Put (a0 : vary_Row) (a1 : bitio_Writer) (a2 : Int) : Option (vary_Row × bitio_Writer) :=
 (lett (decide (a0.n = 0)) fun t24 =>
 bif t24 then
 (vary_PutInt a1 a2).bind fun r26 =>
 some (r26.b, r26.n)
 else
 lett (decide (a0.n = 1)) fun t40 =>
 bif t40 then
 (vary_PutInt a1 (w64 (((toU64 a2) - a0.last).toNat : Int))).bind fun r42 =>
 some (r42.b, r42.n)
 else
 lett (w64 ((((toU64 a2) - a0.last) - a0.step).toNat : Int)) fun d59 =>
 (vary_way d59).bind fun r60 =>
 (flow (loop (vary_Row_Put_lp1 r60) (a1.b, a1.n, 0)) fun (c89, c92) =>
 some (c89, c92)).bind fun (c70, c73) =>
 (bif decide (r60 < 4) then
 (bitio_Writer_Put (bitio_Writer.mk c70 c73) (0 : UInt64) 1).bind fun (r133, r134) =>
 some (r134.b, r134.n)
 else
 some (c70, c73)).bind fun (c123, c126) =>
 (vary_widths).bind fun r148 =>
 (idx r148 r60).bind fun e161 =>
 (bitio_Writer_Put (bitio_Writer.mk c123 c126) (shrU (shlU (toU64 d59) ((toU64 (w64 (64 - e161))).toNat)) ((toU64 (w64 (64 - e161))).toNat)) e161).bind fun (r167, r168) =>
 some (r168.b, r168.n)).bind fun (c15, c18) =>
 (vary_Row_follow a0 (toU64 a2)).bind fun r183 =>
 some (r183, (bitio_Writer.mk c15 c18))
noncomputable def ref06_size (a0 : Int) : Option Int :=
 (idx [0, 7, 20, 64] a0).bind fun e16 =>
 some e16
noncomputable def ref06_power_lp1 (a0 : Int) : (UInt64 × Int) → Option (Rnd (UInt64 × Int) UInt64 UInt64) := fun (p11, i12) =>
 bif decide (i12 < a0) then
 lett (((2 : UInt64) * p11)) fun p21 =>
 lett (w64 (i12 + 1)) fun i22 =>
 some (.next (p21, i22))
 else
 some (.brk p11)
noncomputable def ref06_power (a0 : Int) : Option UInt64 :=
 flow (loop (ref06_power_lp1 a0) (1, 0)) fun p13 =>
 some p13
noncomputable def ref06_Class_lp1 (a0 : UInt64) : Int → Option (Rnd Int Unit Int) := fun c11 =>
 bif decide (c11 < 3) then
 (ref06_size c11).bind fun r25 =>
 (ref06_power r25).bind fun r34 =>
 bif decide (a0 < r34) then
 outr (some c11)
 else
 lett (w64 (c11 + 1)) fun c45 =>
 some (.next c45)
 else
 some (.brk ())
noncomputable def ref06_Class (a0 : UInt64) : Option Int :=
 flow (loop (ref06_Class_lp1 a0) 0) fun (_ : Unit) =>
 some 3
noncomputable def ref06_Small (a0 : UInt64) : Option (List Int) :=
 (ref06_Class a0).bind fun r11 =>
 (ref01_Row (toU64 r11) 2).bind fun (r20, r21) =>
 (ref06_size r11).bind fun r33 =>
 (ref01_Row a0 r33).bind fun (r42, r43) =>
 (app r20 r42).bind fun xs55 =>
 some xs55
noncomputable def ref02_Zig (a0 : Int) : Option UInt64 :=
 bif decide (0 ≤ a0) then
 lett (((2 : UInt64) * (toU64 a0))) fun t12 =>
 some t12
 else
 lett ((((2 : UInt64) * (toU64 (w64 ((-1) - a0)))) + 1)) fun t14 =>
 some t14
noncomputable def vary_wide (a0 : bitio_Reader) (a1 : Int) : Option UInt64 :=
 (bitio_Reader_Look a0 64).bind fun (r13, r14) =>
 (bitio_Reader_Skip a0 64).bind fun (r39, r40) =>
 (bitio_Reader_Look r40 a1).bind fun (r54, r55) =>
 lett (((shlU r13 ((toU64 a1).toNat)) ||| r54)) fun t64 =>
 some t64
noncomputable def vary_Get (a0 : bitio_Reader) : Option (UInt64 × Int × bitio_Reader) :=
 (bitio_Reader_Look a0 2).bind fun (r13, r14) =>
 bif (!r14) then
 some (0, 2, a0)
 else
 (vary_sizes).bind fun r27 =>
 (idx r27 (r13.toNat : Int)).bind fun e40 =>
 (bitio_Reader_Left a0).bind fun r48 =>
 bif decide (r48 < w64 (2 + e40)) then
 some (0, 2, a0)
 else
 (bitio_Reader_Look a0 (min (w64 (2 + e40)) 64)).bind fun (r63, r64) =>
 (bif decide (e40 < 64) then
 lett ((r63 &&& ((shlU (1 : UInt64) ((toU64 e40).toNat)) - 1))) fun v80 =>
 some v80
 else
 (vary_wide a0 2).bind fun r83 =>
 some r83).bind fun v73 =>
 (vary_class v73).bind fun r92 =>
 bif (!decide (r92 = w64 (r13.toNat : Int))) then
 some (0, 3, a0)
 else
 (bitio_Reader_Skip a0 (w64 (2 + e40))).bind fun (r115, r116) =>
 some (v73, 0, r116)
noncomputable def pack_Zag (a0 : UInt64) : Option Int :=
 lett (xorI (w64 ((shrU a0 ((1 : UInt64).toNat)).toNat : Int)) (w64 (0 - (w64 ((a0 &&& 1).toNat : Int))))) fun t11 =>
 some t11
noncomputable def vary_GetInt (a0 : bitio_Reader) : Option (Int × Int × bitio_Reader) :=
 (vary_Get a0).bind fun (r13, r14, r15) =>
 (pack_Zag r13).bind fun r29 =>
 some (r29, r14, r15)
noncomputable def vary_step_lp1 (a0 : bitio_Reader) : (List UInt8 × Int × Int × Int) → Option (Rnd (List UInt8 × Int × Int × Int) (List UInt8 × Int × Int × Int) (Flow (List UInt8 × Int × Int × Int) (Int × Int × bitio_Reader))) := fun (c39, c42, c43, k44) =>
 bif decide (k44 < 4) then
 (bitio_Reader_Take (bitio_Reader.mk c39 c42 c43) 1).bind fun (r66, r67, r68) =>
 bif (!r67) then
 outr (outs (some (0, 2, a0)))
 else
 bif decide (r66 = 0) then
 some (.brk (r68.b, r68.n, r68.at_, k44))
 else
 lett (w64 (k44 + 1)) fun k92 =>
 some (.next (r68.b, r68.n, r68.at_, k92))
 else
 some (.brk (c39, c42, c43, k44))
noncomputable def vary_step (a0 : bitio_Reader) : Option (Int × Int × bitio_Reader) :=
 flow (flow (loop (vary_step_lp1 a0) (a0.b, a0.n, a0.at_, 0)) fun (c49, c52, c53, k54) =>
 some (.go (c49, c52, c53, k54))) fun (c27, c30, c31, k32) =>
 (vary_widths).bind fun r93 =>
 (idx r93 k32).bind fun e106 =>
 (bitio_Reader_Take (bitio_Reader.mk c27 c30 c31) e106).bind fun (r112, r113, r114) =>
 bif (!r113) then
 some (0, 2, a0)
 else
 lett (shrI (w64 ((shlU r112 ((toU64 (w64 (64 - e106))).toNat)).toNat : Int)) ((toU64 (w64 (64 - e106))).toNat)) fun d139 =>
 (vary_way d139).bind fun r140 =>
 bif (!decide (r140 = k32)) then
 some (0, 3, a0)
 else
 (bitio_Reader_At r114).bind fun r164 =>
 (bitio_Reader_At a0).bind fun r186 =>
 (bitio_Reader_Skip a0 (w64 (r164 - r186))).bind fun (r197, r198) =>
 some (d139, 0, r198)
noncomputable def vary_Row_Get (a0 : vary_Row) (a1 : bitio_Reader) : Option (Int × Int × vary_Row × bitio_Reader) :=
 flow (bif decide (a0.n < 2) then
 (vary_GetInt a1).bind fun (r27, r28, r29) =>
 bif (!decide (r28 = 0)) then
 outs (some (0, r28, a0, r29))
 else
 lett ((a0.last + (toU64 r27))) fun v47 =>
 some (.go (r29.b, r29.n, r29.at_, v47))
 else
 (vary_step a1).bind fun (r48, r49, r50) =>
 bif (!decide (r49 = 0)) then
 outs (some (0, r49, a0, r50))
 else
 lett (((a0.last + a0.step) + (toU64 r48))) fun v71 =>
 some (.go (r50.b, r50.n, r50.at_, v71))) fun (c15, c18, c19, v20) =>
 (vary_Row_follow a0 v20).bind fun r75 =>
 lett (w64 (v20.toNat : Int)) fun t86 =>
 some (t86, 0, r75, (bitio_Reader.mk c15 c18 c19))
end Go.Lg
