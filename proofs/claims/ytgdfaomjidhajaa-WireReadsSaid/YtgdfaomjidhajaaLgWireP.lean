/- The plain functions, printed by gen.py. -/
import Derived.Test.YtgdfaomjidhajaaLgLit
import Derived.Test.YtgdfaomjidhajaaLgBitsP
set_option linter.unusedVariables false
namespace Go.Lg
structure api_Fld where
  Num : Int
  Type_ : Int
  V : UInt64
  B : List UInt8
  deriving DecidableEq
structure ref30_Got where
  V : UInt64
  N : Int
  E : Int
  deriving DecidableEq
structure ref30_Message where
  L : List api_Fld
  At : Int
  E : Int
  deriving DecidableEq
noncomputable def wire_Var_lp1 : (UInt64 × List UInt8) → Option (Rnd (UInt64 × List UInt8) (UInt64 × List UInt8) (UInt64 × List UInt8)) := fun (v20, out21) =>
 bif decide (127 < v20) then
 (app out21 [(v20.toUInt8 ||| 128)]).bind fun xs46 =>
 lett (shrU v20 ((7 : UInt64).toNat)) fun v53 =>
 some (.next (v53, xs46))
 else
 some (.brk (v20, out21))
noncomputable def wire_Var (a0 : UInt64) : Option (List UInt8) :=
 (flow (loop (wire_Var_lp1) (a0, [])) fun (v27, out28) =>
 some (v27, out28)).bind fun (v11, out12) =>
 (app out12 [v11.toUInt8]).bind fun xs65 =>
 some xs65

noncomputable def wire_check (a0 : api_Fld) : Option Int :=
 lett (((decide (a0.Num < 1)) || (decide (536870911 < a0.Num)))) fun t22 =>
 bif t22 then
 some 1
 else
 lett (((decide (a0.Type_ < 0)) || (decide (2 < a0.Type_)))) fun t26 =>
 bif t26 then
 some 14
 else
 lett (((!decide (a0.Type_ = 2)) && (decide (0 < (a0.B.length : Int))))) fun t31 =>
 bif t31 then
 bif t31 then
 some 3
 else
 some 0
 else
 lett (((decide (a0.Type_ = 2)) && (!decide (a0.V = 0)))) fun t37 =>
 bif t37 then
 some 3
 else
 some 0

noncomputable def wire_eight_lp1 (a0 : UInt64) (t11 : List UInt8) : (List UInt8 × Int) → Option (Rnd (List UInt8 × Int) (List UInt8) (List UInt8)) := fun (b17, x20) =>
 bif decide (x20 < (t11.length : Int)) then
 (idx b17 x20).bind fun e40 =>
 lett ((shrU a0 ((toU64 (w64 (8 * x20))).toNat)).toUInt8) fun t50 =>
 (setI b17 x20 t50).bind fun xs51 =>
 some (.next (xs51, w64 (x20 + 1)))
 else
 some (.brk b17)
noncomputable def wire_eight (a0 : UInt64) : Option (List UInt8) :=
 (mk 8 (0 : UInt8)).bind fun t11 =>
 flow (loop (wire_eight_lp1 a0 t11) (t11, 0)) fun b24 =>
 some b24

noncomputable def wire_Encode_lp1 (a0 : List api_Fld) : (List UInt8 × Int) → Option (Rnd (List UInt8 × Int) (List UInt8) (List UInt8 × Int)) := fun (out12, x15) =>
 bif decide (x15 < (a0.length : Int)) then
 (idx a0 x15).bind fun e32 =>
 (wire_check e32).bind fun r61 =>
 bif (!decide (r61 = 0)) then
 outr (some ([], r61))
 else
 (wire_Var (toU64 (w64 ((w64 (8 * e32.Num)) + e32.Type_)))).bind fun r73 =>
 (app out12 r73).bind fun xs85 =>
 (lett (decide (e32.Type_ = 0)) fun t105 =>
 bif t105 then
 (wire_Var e32.V).bind fun r107 =>
 (app xs85 r107).bind fun xs119 =>
 some xs119
 else
 lett (decide (e32.Type_ = 1)) fun t129 =>
 bif t129 then
 (wire_eight e32.V).bind fun r131 =>
 (app xs85 r131).bind fun xs143 =>
 some xs143
 else
 lett (decide (e32.Type_ = 2)) fun t153 =>
 bif t153 then
 (wire_Var (toU64 (e32.B.length : Int))).bind fun r158 =>
 (app xs85 r158).bind fun xs170 =>
 (app xs170 e32.B).bind fun xs179 =>
 some xs179
 else
 some xs85).bind fun out97 =>
 some (.next (out97, w64 (x15 + 1)))
 else
 some (.brk out12)
noncomputable def wire_Encode (a0 : List api_Fld) : Option (List UInt8 × Int) :=
 flow (loop (wire_Encode_lp1 a0) ([], 0)) fun out19 =>
 some (out19, 0)

noncomputable def wire_GetVar_lp1 (t15 : List UInt8) : (UInt64 × Int) → Option (Rnd (UInt64 × Int) Unit (UInt64 × Int × Int)) := fun (v19, x20) =>
 bif decide (x20 < (t15.length : Int)) then
 (idx t15 x20).bind fun e28 =>
 bif ((decide (x20 = 9)) && (decide (1 < e28))) then
 outr (some (0, 0, 3))
 else
 lett ((v19 ||| (shlU ((e28 &&& 127).toUInt64) ((toU64 (w64 (7 * x20))).toNat)))) fun v43 =>
 bif decide (e28 < 128) then
 bif ((decide (e28 = 0)) && (decide (0 < x20))) then
 outr (some (0, 0, 3))
 else
 lett (w64 (x20 + 1)) fun nv48 =>
 outr (some (v43, nv48, 0))
 else
 some (.next (v43, w64 (x20 + 1)))
 else
 some (.brk ())
noncomputable def wire_GetVar (a0 : List UInt8) (a1 : Int) : Option (UInt64 × Int × Int) :=
 bif ((decide (a1 < 0)) || (decide ((a0.length : Int) < a1))) then
 some (0, 0, 1)
 else
 (slc a0 a1 (a0.length : Int)).bind fun t15 =>
 flow (loop (wire_GetVar_lp1 t15) (0, 0)) fun (_ : Unit) =>
 some (0, 0, 2)

noncomputable def wire_field_lp1 (t67 : List UInt8) : (UInt64 × Int) → Option (Rnd (UInt64 × Int) UInt64 UInt64) := fun (c79, x80) =>
 bif decide (x80 < (t67.length : Int)) then
 (idx t67 x80).bind fun e96 =>
 lett ((c79 ||| (shlU e96.toUInt64 ((toU64 (w64 (8 * x80))).toNat)))) fun t109 =>
 some (.next (t109, w64 (x80 + 1)))
 else
 some (.brk c79)
noncomputable def wire_field (a0 : List UInt8) (a1 : Int) : Option (api_Fld × Int × Int) :=
 (wire_GetVar a0 a1).bind fun (r18, r19, r20) =>
 bif (!decide (r20 = 0)) then
 some ((api_Fld.mk 0 0 0 []), 0, r20)
 else
 lett (w64 (a1 + r19)) fun at35 =>
 bif decide (2 < (r18 &&& 7)) then
 some ((api_Fld.mk 0 0 0 []), 0, 14)
 else
 bif ((decide (shrU r18 ((3 : UInt64).toNat) < 1)) || (decide (536870911 < shrU r18 ((3 : UInt64).toNat)))) then
 some ((api_Fld.mk 0 0 0 []), 0, 1)
 else
 lett (w64 ((shrU r18 ((3 : UInt64).toNat)).toNat : Int)) fun t49 =>
 lett (w64 ((r18 &&& 7).toNat : Int)) fun t54 =>
 bif decide (t54 = 1) then
 bif decide (w64 ((a0.length : Int) - at35) < 8) then
 some ((api_Fld.mk t49 t54 0 []), 0, 2)
 else
 (slc a0 at35 (w64 (at35 + 8))).bind fun t67 =>
 (flow (loop (wire_field_lp1 t67) (0, 0)) fun c85 =>
 some c85).bind fun c72 =>
 lett (w64 (at35 + 8)) fun next116 =>
 some ((api_Fld.mk t49 t54 c72 []), next116, 0)
 else
 (wire_GetVar a0 at35).bind fun (r121, r122, r123) =>
 bif (!decide (r123 = 0)) then
 some ((api_Fld.mk t49 t54 0 []), 0, r123)
 else
 lett (w64 (at35 + r122)) fun at138 =>
 bif decide (t54 = 0) then
 some ((api_Fld.mk t49 t54 r121 []), at138, 0)
 else
 bif decide (toU64 (w64 ((a0.length : Int) - at138)) < r121) then
 some ((api_Fld.mk t49 t54 0 []), 0, 2)
 else
 (slc a0 at138 (w64 (at138 + (w64 (r121.toNat : Int))))).bind fun t154 =>
 (bytes_Clone t154).bind fun r158 =>
 lett (w64 (at138 + (w64 (r121.toNat : Int)))) fun next181 =>
 some ((api_Fld.mk t49 t54 0 r158), next181, 0)

noncomputable def wire_Decode_lp1 (a0 : List UInt8) : (List api_Fld × Int) → Option (Rnd (List api_Fld × Int) (List api_Fld) (List api_Fld × Int × Int)) := fun (l12, at15) =>
 bif decide (at15 < (a0.length : Int)) then
 (wire_field a0 at15).bind fun (r33, r34, r35) =>
 bif (!decide (r35 = 0)) then
 outr (some ([], at15, r35))
 else
 (app l12 [r33]).bind fun xs68 =>
 some (.next (xs68, r34))
 else
 some (.brk l12)
noncomputable def wire_Decode (a0 : List UInt8) : Option (List api_Fld × Int × Int) :=
 flow (loop (wire_Decode_lp1 a0) ([], 0)) fun l19 =>
 some (l19, 0, 0)

noncomputable def law30_awake  : Option Bool :=
 (wire_Encode [(api_Fld.mk 1 0 150 [])]).bind fun (r16, r17) =>
 (wire_GetVar [128, 0] 0).bind fun (r34, r35, r36) =>
 (wire_Decode [8, 1, 13]).bind fun (r53, r54, r55) =>
 (wire_Var (300 : UInt64)).bind fun r67 =>
 lett (((((((decide (r67 = [172, 2])) && (decide (r16 = [8, 150, 1]))) && (decide (r17 = 0))) && (decide (r36 = 3))) && (decide (r54 = 2))) && (decide (r55 = 14)))) fun t90 =>
 some t90

noncomputable def ref30_Few_lp1 (a0 : List api_Fld) : Int → Option (Rnd Int Unit Bool) := fun i14 =>
 bif decide (i14 < (a0.length : Int)) then
 (idx a0 i14).bind fun e22 =>
 bif decide (300 < (e22.B.length : Int)) then
 outr (some false)
 else
 lett (w64 (i14 + 1)) fun i38 =>
 some (.next i38)
 else
 some (.brk ())
noncomputable def ref30_Few (a0 : List api_Fld) : Option Bool :=
 bif decide (60 < (a0.length : Int)) then
 some false
 else
 flow (loop (ref30_Few_lp1 a0) 0) fun (_ : Unit) =>
 some true

noncomputable def ref30_VarB (rec_ : UInt64 → Option (List UInt8)) (a0 : UInt64) : Option (List UInt8) :=
 bif decide (a0 < 128) then
 some [a0.toUInt8]
 else
 (rec_ (a0 / 128)).bind fun r23 =>
 (app [((128 : UInt64) + (a0 % 128)).toUInt8] r23).bind fun xs35 =>
 some xs35
noncomputable def ref30_VarN : Nat → UInt64 → Option (List UInt8)
  | 0 => fun _ => none
  | k + 1 => ref30_VarB (ref30_VarN k)
noncomputable def ref30_Var (a0 : UInt64) : Option (List UInt8) :=
  fuel fun k => ref30_VarN k a0

noncomputable def ref30_fix_lp1 : (UInt64 × List UInt8 × Int) → Option (Rnd (UInt64 × List UInt8 × Int) (List UInt8) (List UInt8)) := fun (v11, s12, i13) =>
 bif decide (i13 < 8) then
 (app s12 [(v11 % 256).toUInt8]).bind fun t33 =>
 lett ((v11 / 256)) fun v34 =>
 lett (w64 (i13 + 1)) fun i35 =>
 some (.next (v34, t33, i35))
 else
 some (.brk s12)
noncomputable def ref30_fix (a0 : UInt64) : Option (List UInt8) :=
 flow (loop (ref30_fix_lp1) (a0, [], 0)) fun s17 =>
 some s17

noncomputable def ref30_Encode_lp1 (a0 : List api_Fld) : (List UInt8 × Int) → Option (Rnd (List UInt8 × Int) (List UInt8) (List UInt8 × Int)) := fun (s12, i13) =>
 bif decide (i13 < (a0.length : Int)) then
 flow ((idx a0 i13).bind fun e35 =>
 bif ((decide (e35.Num < 1)) || (decide (536870911 < e35.Num))) then
 outs (outr (some ([], 1)))
 else
 bif ((decide (e35.Type_ < 0)) || (decide (2 < e35.Type_))) then
 outs (outr (some ([], 14)))
 else
 bif (((decide (e35.Type_ = 2)) && (!decide (e35.V = 0))) || ((decide (e35.Type_ < 2)) && (decide (0 < (e35.B.length : Int))))) then
 outs (outr (some ([], 3)))
 else
 (ref30_Var (((toU64 e35.Num) * 8) + (toU64 e35.Type_))).bind fun r74 =>
 (app s12 r74).bind fun t86 =>
 (bif decide (e35.Type_ = 0) then
 (ref30_Var e35.V).bind fun r95 =>
 (app t86 r95).bind fun t107 =>
 some t107
 else
 some t86).bind fun s87 =>
 (bif decide (e35.Type_ = 1) then
 (ref30_fix e35.V).bind fun r117 =>
 (app s87 r117).bind fun t126 =>
 some t126
 else
 some s87).bind fun s108 =>
 bif decide (e35.Type_ = 2) then
 (ref30_Var (toU64 (e35.B.length : Int))).bind fun r173 =>
 (app s108 r173).bind fun t189 =>
 (app t189 e35.B).bind fun t193 =>
 some (.go t193)
 else
 some (.go s108)) fun s29 =>
 lett (w64 (i13 + 1)) fun i200 =>
 some (.next (s29, i200))
 else
 some (.brk s12)
noncomputable def ref30_Encode (a0 : List api_Fld) : Option (List UInt8 × Int) :=
 flow (loop (ref30_Encode_lp1 a0) ([], 0)) fun s17 =>
 some (s17, 0)

noncomputable def ref30_Same_lp1 (a0 : List api_Fld) (a1 : List api_Fld) : Int → Option (Rnd Int Unit Bool) := fun i15 =>
 bif decide (i15 < (a0.length : Int)) then
 (idx a0 i15).bind fun e38 =>
 (idx a1 i15).bind fun e69 =>
 (bif (!decide (e38.Num = e69.Num)) then
 some true
 else
 (idx a0 i15).bind fun e115 =>
 (idx a1 i15).bind fun e145 =>
 some (!decide (e115.Type_ = e145.Type_))).bind fun x101 =>
 (bif x101 then
 some true
 else
 (idx a0 i15).bind fun e192 =>
 (idx a1 i15).bind fun e222 =>
 some (!decide (e192.V = e222.V))).bind fun x178 =>
 (bif x178 then
 some true
 else
 (idx a0 i15).bind fun e269 =>
 (idx a1 i15).bind fun e303 =>
 some (!decide (e269.B = e303.B))).bind fun x255 =>
 bif x255 then
 outr (some false)
 else
 lett (w64 (i15 + 1)) fun i339 =>
 some (.next i339)
 else
 some (.brk ())
noncomputable def ref30_Same (a0 : List api_Fld) (a1 : List api_Fld) : Option Bool :=
 bif (!decide ((a0.length : Int) = (a1.length : Int))) then
 some false
 else
 flow (loop (ref30_Same_lp1 a0 a1) 0) fun (_ : Unit) =>
 some true

noncomputable def ref30_GetVar_lp1 (a0 : List UInt8) (a1 : Int) : Int → Option (Rnd Int Int (Flow Int ref30_Got)) := fun nv27 =>
 (bif decide (w64 (a1 + nv27) < (a0.length : Int)) then
 (idx a0 (w64 (a1 + nv27))).bind fun e40 =>
 some (decide (128 ≤ e40))
 else
 some false).bind fun x36 =>
 bif x36 then
 bif decide (nv27 = 9) then
 outr (outs (some (ref30_Got.mk 0 0 3)))
 else
 lett (w64 (nv27 + 1)) fun nv58 =>
 some (.next nv58)
 else
 some (.brk nv27)
noncomputable def ref30_GetVar_lp2 (a0 : List UInt8) (a1 : Int) : (UInt64 × Int) → Option (Rnd (UInt64 × Int) UInt64 UInt64) := fun (v109, i110) =>
 bif decide (0 ≤ i110) then
 (idx a0 (w64 (a1 + i110))).bind fun e119 =>
 lett ((((128 : UInt64) * v109) + ((e119 % 128).toUInt64))) fun v131 =>
 lett (w64 (i110 - 1)) fun i132 =>
 some (.next (v131, i132))
 else
 some (.brk v109)
noncomputable def ref30_GetVar (a0 : List UInt8) (a1 : Int) : Option ref30_Got :=
 bif ((decide (a1 < 0)) || (decide ((a0.length : Int) < a1))) then
 some (ref30_Got.mk 0 0 1)
 else
 flow (flow (loop (ref30_GetVar_lp1 a0 a1) 0) fun nv28 =>
 some (.go nv28)) fun nv24 =>
 bif decide (w64 (a1 + nv24) = (a0.length : Int)) then
 some (ref30_Got.mk 0 0 2)
 else
 (bif decide (nv24 = 9) then
 (idx a0 (w64 (a1 + nv24))).bind fun e69 =>
 some (decide (1 < e69))
 else
 some false).bind fun x65 =>
 (bif x65 then
 some true
 else
 (bif decide (0 < nv24) then
 (idx a0 (w64 (a1 + nv24))).bind fun e89 =>
 some (decide (e89 = 0))
 else
 some false).bind fun x85 =>
 some x85).bind fun x81 =>
 bif x81 then
 some (ref30_Got.mk 0 0 3)
 else
 (flow (loop (ref30_GetVar_lp2 a0 a1) (0, nv24)) fun v111 =>
 some v111).bind fun v106 =>
 some (ref30_Got.mk v106 (w64 (nv24 + 1)) 0)

noncomputable def ref30_Decode_lp2 (a0 : List UInt8) (k103 : Int) : (UInt64 × Int) → Option (Rnd (UInt64 × Int) UInt64 UInt64) := fun (c140, i141) =>
 bif decide (0 ≤ i141) then
 (idx a0 (w64 (k103 + i141))).bind fun e160 =>
 lett ((((256 : UInt64) * c140) + e160.toUInt64)) fun t174 =>
 lett (w64 (i141 - 1)) fun i178 =>
 some (.next (t174, i178))
 else
 some (.brk c140)
noncomputable def ref30_Decode_lp1 (a0 : List UInt8) : (List api_Fld × Int) → Option (Rnd (List api_Fld × Int) (List api_Fld) ref30_Message) := fun (l17, at20) =>
 bif decide (at20 < (a0.length : Int)) then
 flow ((ref30_GetVar a0 at20).bind fun r48 =>
 bif (!decide (r48.E = 0)) then
 outs (outr (some (ref30_Message.mk [] at20 r48.E)))
 else
 bif decide (2 < (r48.V % 8)) then
 outs (outr (some (ref30_Message.mk [] at20 14)))
 else
 bif ((decide ((r48.V / 8) < 1)) || (decide (536870911 < (r48.V / 8)))) then
 outs (outr (some (ref30_Message.mk [] at20 1)))
 else
 lett (w64 (at20 + r48.N)) fun k103 =>
 flow (bif decide (w64 ((r48.V % 8).toNat : Int) = 1) then
 bif decide (w64 ((a0.length : Int) - k103) < 8) then
 outs (outs (outr (some (ref30_Message.mk [] at20 2))))
 else
 (flow (loop (ref30_Decode_lp2 a0 k103) (0, 7)) fun c146 =>
 some c146).bind fun c133 =>
 lett (w64 (k103 + 8)) fun k179 =>
 some (.go (c133, [], k179))
 else
 (ref30_GetVar a0 k103).bind fun r185 =>
 bif (!decide (r185.E = 0)) then
 outs (outs (outr (some (ref30_Message.mk [] at20 r185.E))))
 else
 lett (w64 (k103 + r185.N)) fun k216 =>
 bif decide (w64 ((r48.V % 8).toNat : Int) = 0) then
 some (.go (r185.V, [], k216))
 else
 bif decide (toU64 (w64 ((a0.length : Int) - k216)) < r185.V) then
 outs (outs (outr (some (ref30_Message.mk [] at20 2))))
 else
 (slc a0 k216 (w64 (k216 + (w64 (r185.V.toNat : Int))))).bind fun t241 =>
 lett (w64 (k216 + (w64 (r185.V.toNat : Int)))) fun k253 =>
 some (.go (0, t241, k253))) fun (c105, c106, k109) =>
 (app l17 [(api_Fld.mk (w64 ((r48.V / 8).toNat : Int)) (w64 ((r48.V % 8).toNat : Int)) c105 c106)]).bind fun xs264 =>
 some (.go (xs264, k109))) fun (l39, at42) =>
 some (.next (l39, at42))
 else
 some (.brk l17)
noncomputable def ref30_Decode (a0 : List UInt8) : Option ref30_Message :=
 flow (loop (ref30_Decode_lp1 a0) ([], 0)) fun l24 =>
 some (ref30_Message.mk l24 0 0)

noncomputable def law30_WireReads (a0 : List UInt8) : Option Bool :=
 (law30_awake).bind fun r12 =>
 bif (!r12) then
 some false
 else
 bif decide (1000 < (a0.length : Int)) then
 some true
 else
 (wire_Decode a0).bind fun (r26, r27, r28) =>
 (ref30_Decode a0).bind fun r41 =>
 (ref30_Same r26 r41.L).bind fun r70 =>
 bif (((!r70) || (!decide (r27 = r41.At))) || (!decide (r28 = r41.E))) then
 some false
 else
 bif (!decide (r28 = 0)) then
 some true
 else
 (wire_Encode r26).bind fun (r88, r89) =>
 lett (((decide (r88 = a0)) && (decide (r89 = 0)))) fun t107 =>
 some t107

noncomputable def ref30_All_lp1 (a0 : List api_Fld) (a1 : Int) : (List api_Fld × Int) → Option (Rnd (List api_Fld × Int) (List api_Fld) (List api_Fld)) := fun (out12, i15) =>
 bif decide (i15 < (a0.length : Int)) then
 ((idx a0 i15).bind fun e41 =>
 bif decide (e41.Num = a1) then
 (idx a0 i15).bind fun e56 =>
 (app out12 [e56]).bind fun xs79 =>
 some xs79
 else
 some out12).bind fun out33 =>
 lett (w64 (i15 + 1)) fun i92 =>
 some (.next (out33, i92))
 else
 some (.brk out12)
noncomputable def ref30_All (a0 : List api_Fld) (a1 : Int) : Option (List api_Fld) :=
 flow (loop (ref30_All_lp1 a0 a1) ([], 0)) fun out19 =>
 some out19

noncomputable def wire_All_lp1 (a0 : List api_Fld) (a1 : Int) : (List api_Fld × Int) → Option (Rnd (List api_Fld × Int) (List api_Fld) (List api_Fld)) := fun (out12, x15) =>
 bif decide (x15 < (a0.length : Int)) then
 ((idx a0 x15).bind fun e40 =>
 bif decide (e40.Num = a1) then
 (bytes_Clone e40.B).bind fun r70 =>
 (app out12 [(api_Fld.mk e40.Num e40.Type_ e40.V r70)]).bind fun xs99 =>
 some xs99
 else
 some out12).bind fun out32 =>
 some (.next (out32, w64 (x15 + 1)))
 else
 some (.brk out12)
noncomputable def wire_All (a0 : List api_Fld) (a1 : Int) : Option (List api_Fld) :=
 flow (loop (wire_All_lp1 a0 a1) ([], 0)) fun out19 =>
 some out19

noncomputable def wire_Last (a0 : List api_Fld) (a1 : Int) : Option (api_Fld × Bool) :=
 (wire_All a0 a1).bind fun r18 =>
 bif decide ((r18.length : Int) = 0) then
 some ((api_Fld.mk 0 0 0 []), false)
 else
 (idx r18 (w64 ((r18.length : Int) - 1))).bind fun e36 =>
 some (e36, true)

noncomputable def wire_Packed_lp1 (a0 : List UInt64) : (List UInt8 × Int) → Option (Rnd (List UInt8 × Int) (List UInt8) (List UInt8)) := fun (out12, x15) =>
 bif decide (x15 < (a0.length : Int)) then
 (idx a0 x15).bind fun e32 =>
 (wire_Var e32).bind fun r45 =>
 (app out12 r45).bind fun xs57 =>
 some (.next (xs57, w64 (x15 + 1)))
 else
 some (.brk out12)
noncomputable def wire_Packed (a0 : List UInt64) : Option (List UInt8) :=
 flow (loop (wire_Packed_lp1 a0) ([], 0)) fun out19 =>
 some out19

noncomputable def wire_Unpacked_lp1 (a0 : List UInt8) : (List UInt64 × Int) → Option (Rnd (List UInt64 × Int) (List UInt64) (List UInt64 × Int)) := fun (out12, at15) =>
 bif decide (at15 < (a0.length : Int)) then
 (wire_GetVar a0 at15).bind fun (r33, r34, r35) =>
 bif (!decide (r35 = 0)) then
 outr (some ([], r35))
 else
 (app out12 [r33]).bind fun xs51 =>
 lett (w64 (at15 + r34)) fun at59 =>
 some (.next (xs51, at59))
 else
 some (.brk out12)
noncomputable def wire_Unpacked (a0 : List UInt8) : Option (List UInt64 × Int) :=
 flow (loop (wire_Unpacked_lp1 a0) ([], 0)) fun out19 =>
 some (out19, 0)

noncomputable def law30_WireFinds_lp1 (a2 : List UInt64) (r267 : List UInt64) : Int → Option (Rnd Int Unit (Flow Unit Bool)) := fun i290 =>
 bif decide (i290 < (a2.length : Int)) then
 (idx r267 i290).bind fun e309 =>
 (idx a2 i290).bind fun e321 =>
 bif (!decide (e309 = e321)) then
 outr (outs (some false))
 else
 lett (w64 (i290 + 1)) fun i336 =>
 some (.next i336)
 else
 some (.brk ())
noncomputable def law30_WireFinds (a0 : List api_Fld) (a1 : Int) (a2 : List UInt64) (a3 : List UInt8) : Option Bool :=
 (law30_awake).bind fun r14 =>
 bif (!r14) then
 some false
 else
 (ref30_Few a0).bind fun r26 =>
 bif (((!r26) || (decide (60 < (a2.length : Int)))) || (decide (300 < (a3.length : Int)))) then
 some true
 else
 (ref30_All a0 a1).bind fun r44 =>
 (wire_Last a0 a1).bind fun (r57, r58) =>
 (wire_All a0 a1).bind fun r98 =>
 (ref30_Same r98 r44).bind fun r115 =>
 (bif ((!r115) || (!decide (r58 = decide (0 < (r44.length : Int))))) then
 some true
 else
 (bif r58 then
 (slc r44 (w64 ((r44.length : Int) - 1)) (r44.length : Int)).bind fun t204 =>
 (ref30_Same [r57] t204).bind fun r222 =>
 some (!r222)
 else
 some false).bind fun x175 =>
 some x175).bind fun x158 =>
 bif x158 then
 some false
 else
 (wire_Packed a2).bind fun r255 =>
 (wire_Unpacked r255).bind fun (r267, r268) =>
 bif ((!decide (r268 = 0)) || (!decide ((r267.length : Int) = (a2.length : Int)))) then
 some false
 else
 flow (flow (loop (law30_WireFinds_lp1 a2 r267) 0) fun (_ : Unit) =>
 some (.go ())) fun (_ : Unit) =>
 (wire_Unpacked a3).bind fun (r350, r351) =>
 bif (!decide (r351 = 0)) then
 lett (decide ((r350.length : Int) = 0)) fun t364 =>
 some t364
 else
 (wire_Packed r350).bind fun r381 =>
 lett (decide (r381 = a3)) fun t400 =>
 some t400

def rep_api_Fld : Rep api_Fld := Rep.via (Rep.pair Rep.i (Rep.pair Rep.i (Rep.pair Rep.u (Rep.sl Rep.b)))) fun d => (d.Num, d.Type_, d.V, d.B)
def rep_ref30_Got : Rep ref30_Got := Rep.via (Rep.pair Rep.u (Rep.pair Rep.i Rep.i)) fun d => (d.V, d.N, d.E)
theorem flat_ref30_Got : Flat rep_ref30_Got := Flat.via (Flat.pair Flat.u (Flat.pair Flat.i Flat.i)) _
def rep_ref30_Message : Rep ref30_Message := Rep.via (Rep.pair (Rep.sl rep_api_Fld) (Rep.pair Rep.i Rep.i)) fun d => (d.L, d.At, d.E)
end Go.Lg
