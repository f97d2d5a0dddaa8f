/- Lemmas about the given model and about plain data, which the rows stand on: no statement of the program by itself. -/
import Derived.Test.YtgdfaomjidhajaaWwLgPart0
set_option linter.unusedVariables false
namespace Go.Lg
structure api_Fld where
  Num : Int
  Type_ : Int
  V : UInt64
  B : List UInt8
  deriving DecidableEq
structure ref30_Got where
  V : UInt64
  N : Int
  E : Int
  deriving DecidableEq
structure ref30_Message where
  L : List api_Fld
  At : Int
  E : Int
  deriving DecidableEq
noncomputable def wire_Var_lp1 : (UInt64 × List UInt8) → Option (Rnd (UInt64 × List UInt8) (UInt64 × List UInt8) (UInt64 × List UInt8)) := fun (v20, out21) =>
 bif decide (127 < v20) then
 (app out21 [(v20.toUInt8 ||| 128)]).bind fun xs46 =>
 lett (shrU v20 ((7 : UInt64).toNat)) fun v53 =>
 some (.next (v53, xs46))
 else
 some (.brk (v20, out21))
noncomputable def wire_Var (a0 : UInt64) : Option (List UInt8) :=
 (flow (loop (wire_Var_lp1) (a0, [])) fun (v27, out28) =>
 some (v27, out28)).bind fun (v11, out12) =>
 (app out12 [v11.toUInt8]).bind fun xs65 =>
 some xs65
noncomputable def wire_check (a0 : api_Fld) : Option Int :=
 lett (((decide (a0.Num < 1)) || (decide (536870911 < a0.Num)))) fun t22 =>
 bif t22 then
 some 1
 else
 lett (((decide (a0.Type_ < 0)) || (decide (2 < a0.Type_)))) fun t26 =>
 bif t26 then
 some 14
 else
 lett (((!decide (a0.Type_ = 2)) && (decide (0 < (a0.B.length : Int))))) fun t31 =>
 bif t31 then
 bif t31 then
 some 3
 else
 some 0
 else
 lett (((decide (a0.Type_ = 2)) && (!decide (a0.V = 0)))) fun t37 =>
 bif t37 then
 some 3
 else
 some 0
noncomputable def wire_eight_lp1 (a0 : UInt64) (t11 : List UInt8) : (List UInt8 × Int) → Option (Rnd (List UInt8 × Int) (List UInt8) (List UInt8)) := fun (b17, x20) =>
 bif decide (x20 < (t11.length : Int)) then
 (idx b17 x20).bind fun e40 =>
 lett ((shrU a0 ((toU64 (w64 (8 * x20))).toNat)).toUInt8) fun t50 =>
 (setI b17 x20 t50).bind fun xs51 =>
 some (.next (xs51, w64 (x20 + 1)))
 else
 some (.brk b17)
noncomputable def wire_eight (a0 : UInt64) : Option (List UInt8) :=
 (mk 8 (0 : UInt8)).bind fun t11 =>
 flow (loop (wire_eight_lp1 a0 t11) (t11, 0)) fun b24 =>
 some b24
noncomputable def wire_Encode_lp1 (a0 : List api_Fld) : (List UInt8 × Int) → Option (Rnd (List UInt8 × Int) (List UInt8) (List UInt8 × Int)) := fun (out12, x15) =>
 bif decide (x15 < (a0.length : Int)) then
 (idx a0 x15).bind fun e32 =>
 (wire_check e32).bind fun r61 =>
 bif (!decide (r61 = 0)) then
 outr (some ([], r61))
 else
 (wire_Var (toU64 (w64 ((w64 (8 * e32.Num)) + e32.Type_)))).bind fun r73 =>
 (app out12 r73).bind fun xs85 =>
 (lett (decide (e32.Type_ = 0)) fun t105 =>
 bif t105 then
 (wire_Var e32.V).bind fun r107 =>
 (app xs85 r107).bind fun xs119 =>
 some xs119
 else
 lett (decide (e32.Type_ = 1)) fun t129 =>
 bif t129 then
 (wire_eight e32.V).bind fun r131 =>
 (app xs85 r131).bind fun xs143 =>
 some xs143
 else
 lett (decide (e32.Type_ = 2)) fun t153 =>
 bif t153 then
 (wire_Var (toU64 (e32.B.length : Int))).bind fun r158 =>
 (app xs85 r158).bind fun xs170 =>
 (app xs170 e32.B).bind fun xs179 =>
 some xs179
 else
 some xs85).bind fun out97 =>
 some (.next (out97, w64 (x15 + 1)))
 else
 some (.brk out12)
noncomputable def wire_Encode (a0 : List api_Fld) : Option (List UInt8 × Int) :=
 flow (loop (wire_Encode_lp1 a0) ([], 0)) fun out19 =>
 some (out19, 0)
noncomputable def wire_GetVar_lp1 (t15 : List UInt8) : (UInt64 × Int) → Option (Rnd (UInt64 × Int) Unit (UInt64 × Int × Int)) := fun (v19, x20) =>
 bif decide (x20 < (t15.length : Int)) then
 (idx t15 x20).bind fun e28 =>
 bif ((decide (x20 = 9)) && (decide (1 < e28))) then
 outr (some (0, 0, 3))
 else
 lett ((v19 ||| (shlU ((e28 &&& 127).toUInt64) ((toU64 (w64 (7 * x20))).toNat)))) fun v43 =>
 bif decide (e28 < 128) then
 bif ((decide (e28 = 0)) && (decide (0 < x20))) then
 outr (some (0, 0, 3))
 else
 lett (w64 (x20 + 1)) fun nv48 =>
 outr (some (v43, nv48, 0))
 else
 some (.next (v43, w64 (x20 + 1)))
 else
 some (.brk ())
noncomputable def wire_GetVar (a0 : List UInt8) (a1 : Int) : Option (UInt64 × Int × Int) :=
 bif ((decide (a1 < 0)) || (decide ((a0.length : Int) < a1))) then
 some (0, 0, 1)
 else
 (slc a0 a1 (a0.length : Int)).bind fun t15 =>
 flow (loop (wire_GetVar_lp1 t15) (0, 0)) fun (_ : Unit) =>
 some (0, 0, 2)
noncomputable def wire_field_lp1 (t67 : List UInt8) : (UInt64 × Int) → Option (Rnd (UInt64 × Int) UInt64 UInt64) := fun (c79, x80) =>
 bif decide (x80 < (t67.length : Int)) then
 (idx t67 x80).bind fun e96 =>
 lett ((c79 ||| (shlU e96.toUInt64 ((toU64 (w64 (8 * x80))).toNat)))) fun t109 =>
 some (.next (t109, w64 (x80 + 1)))
 else
 some (.brk c79)
noncomputable def wire_field (a0 : List UInt8) (a1 : Int) : Option (api_Fld × Int × Int) :=
 (wire_GetVar a0 a1).bind fun (r18, r19, r20) =>
 bif (!decide (r20 = 0)) then
 some ((api_Fld.mk 0 0 0 []), 0, r20)
 else
 lett (w64 (a1 + r19)) fun at35 =>
 bif decide (2 < (r18 &&& 7)) then
 some ((api_Fld.mk 0 0 0 []), 0, 14)
 else
 bif ((decide (shrU r18 ((3 : UInt64).toNat) < 1)) || (decide (536870911 < shrU r18 ((3 : UInt64).toNat)))) then
 some ((api_Fld.mk 0 0 0 []), 0, 1)
 else
 lett (w64 ((shrU r18 ((3 : UInt64).toNat)).toNat : Int)) fun t49 =>
 lett (w64 ((r18 &&& 7).toNat : Int)) fun t54 =>
 bif decide (t54 = 1) then
 bif decide (w64 ((a0.length : Int) - at35) < 8) then
 some ((api_Fld.mk t49 t54 0 []), 0, 2)
 else
 (slc a0 at35 (w64 (at35 + 8))).bind fun t67 =>
 (flow (loop (wire_field_lp1 t67) (0, 0)) fun c85 =>
 some c85).bind fun c72 =>
 lett (w64 (at35 + 8)) fun next116 =>
 some ((api_Fld.mk t49 t54 c72 []), next116, 0)
 else
 (wire_GetVar a0 at35).bind fun (r121, r122, r123) =>
 bif (!decide (r123 = 0)) then
 some ((api_Fld.mk t49 t54 0 []), 0, r123)
 else
 lett (w64 (at35 + r122)) fun at138 =>
 bif decide (t54 = 0) then
 some ((api_Fld.mk t49 t54 r121 []), at138, 0)
 else
 bif decide (toU64 (w64 ((a0.length : Int) - at138)) < r121) then
 some ((api_Fld.mk t49 t54 0 []), 0, 2)
 else
 (slc a0 at138 (w64 (at138 + (w64 (r121.toNat : Int))))).bind fun t154 =>
 (bytes_Clone t154).bind fun r158 =>
 lett (w64 (at138 + (w64 (r121.toNat : Int)))) fun next181 =>
 some ((api_Fld.mk t49 t54 0 r158), next181, 0)
noncomputable def wire_Decode_lp1 (a0 : List UInt8) : (List api_Fld × Int) → Option (Rnd (List api_Fld × Int) (List api_Fld) (List api_Fld × Int × Int)) := fun (l12, at15) =>
 bif decide (at15 < (a0.length : Int)) then
 (wire_field a0 at15).bind fun (r33, r34, r35) =>
 bif (!decide (r35 = 0)) then
 outr (some ([], at15, r35))
 else
 (app l12 [r33]).bind fun xs68 =>
 some (.next (xs68, r34))
 else
 some (.brk l12)
noncomputable def wire_Decode (a0 : List UInt8) : Option (List api_Fld × Int × Int) :=
 flow (loop (wire_Decode_lp1 a0) ([], 0)) fun l19 =>
 some (l19, 0, 0)
noncomputable def law30_awake  : Option Bool :=
 (wire_Encode [(api_Fld.mk 1 0 150 [])]).bind fun (r16, r17) =>
 (wire_GetVar [128, 0] 0).bind fun (r34, r35, r36) =>
 (wire_Decode [8, 1, 13]).bind fun (r53, r54, r55) =>
 (wire_Var (300 : UInt64)).bind fun r67 =>
 lett (((((((decide (r67 = [172, 2])) && (decide (r16 = [8, 150, 1]))) && (decide (r17 = 0))) && (decide (r36 = 3))) && (decide (r54 = 2))) && (decide (r55 = 14)))) fun t90 =>
 some t90
noncomputable def ref30_Few_lp1 (a0 : List api_Fld) : Int → Option (Rnd Int Unit Bool) := fun i14 =>
 bif decide (i14 < (a0.length : Int)) then
 (idx a0 i14).bind fun e22 =>
 bif decide (300 < (e22.B.length : Int)) then
 outr (some false)
 else
 lett (w64 (i14 + 1)) fun i38 =>
 some (.next i38)
 else
 some (.brk ())
noncomputable def ref30_Few (a0 : List api_Fld) : Option Bool :=
 bif decide (60 < (a0.length : Int)) then
 some false
 else
 flow (loop (ref30_Few_lp1 a0) 0) fun (_ : Unit) =>
 some true
noncomputable def ref30_VarB (rec_ : UInt64 → Option (List UInt8)) (a0 : UInt64) : Option (List UInt8) :=
 bif decide (a0 < 128) then
 some [a0.toUInt8]
 else
 (rec_ (a0 / 128)).bind fun r23 =>
 (app [((128 : UInt64) + (a0 % 128)).toUInt8] r23).bind fun xs35 =>
 some xs35
noncomputable def ref30_VarN : Nat → UInt64 → Option (List UInt8)
  | 0 => fun _ => none
  | k + 1 => ref30_VarB (ref30_VarN k)
noncomputable def ref30_Var (a0 : UInt64) : Option (List UInt8) :=
  fuel fun k => ref30_VarN k a0
noncomputable def ref30_fix_lp1 : (UInt64 × List UInt8 × Int) → Option (Rnd (UInt64 × List UInt8 × Int) (List UInt8) (List UInt8)) := fun (v11, s12, i13) =>
 bif decide (i13 < 8) then
 (app s12 [(v11 % 256).toUInt8]).bind fun t33 =>
 lett ((v11 / 256)) fun v34 =>
 lett (w64 (i13 + 1)) fun i35 =>
 some (.next (v34, t33, i35))
 else
 some (.brk s12)
noncomputable def ref30_fix (a0 : UInt64) : Option (List UInt8) :=
 flow (loop (ref30_fix_lp1) (a0, [], 0)) fun s17 =>
 some s17
noncomputable def ref30_Encode_lp1 (a0 : List api_Fld) : (List UInt8 × Int) → Option (Rnd (List UInt8 × Int) (List UInt8) (List UInt8 × Int)) := fun (s12, i13) =>
 bif decide (i13 < (a0.length : Int)) then
 flow ((idx a0 i13).bind fun e35 =>
 bif ((decide (e35.Num < 1)) || (decide (536870911 < e35.Num))) then
 outs (outr (some ([], 1)))
 else
 bif ((decide (e35.Type_ < 0)) || (decide (2 < e35.Type_))) then
 outs (outr (some ([], 14)))
 else
 bif (((decide (e35.Type_ = 2)) && (!decide (e35.V = 0))) || ((decide (e35.Type_ < 2)) && (decide (0 < (e35.B.length : Int))))) then
 outs (outr (some ([], 3)))
 else
 (ref30_Var (((toU64 e35.Num) * 8) + (toU64 e35.Type_))).bind fun r74 =>
 (app s12 r74).bind fun t86 =>
 (bif decide (e35.Type_ = 0) then
 (ref30_Var e35.V).bind fun r95 =>
 (app t86 r95).bind fun t107 =>
 some t107
 else
 some t86).bind fun s87 =>
 (bif decide (e35.Type_ = 1) then
 (ref30_fix e35.V).bind fun r117 =>
 (app s87 r117).bind fun t126 =>
 some t126
 else
 some s87).bind fun s108 =>
 bif decide (e35.Type_ = 2) then
 (ref30_Var (toU64 (e35.B.length : Int))).bind fun r173 =>
 (app s108 r173).bind fun t189 =>
 (app t189 e35.B).bind fun t193 =>
 some (.go t193)
 else
 some (.go s108)) fun s29 =>
 lett (w64 (i13 + 1)) fun i200 =>
 some (.next (s29, i200))
 else
 some (.brk s12)
noncomputable def ref30_Encode (a0 : List api_Fld) : Option (List UInt8 × Int) :=
 flow (loop (ref30_Encode_lp1 a0) ([], 0)) fun s17 =>
 some (s17, 0)
noncomputable def ref30_Same_lp1 (a0 : List api_Fld) (a1 : List api_Fld) : Int → Option (Rnd Int Unit Bool) := fun i15 =>
 bif decide (i15 < (a0.length : Int)) then
 (idx a0 i15).bind fun e38 =>
 (idx a1 i15).bind fun e69 =>
 (bif (!decide (e38.Num = e69.Num)) then
 some true
 else
 (idx a0 i15).bind fun e115 =>
 (idx a1 i15).bind fun e145 =>
 some (!decide (e115.Type_ = e145.Type_))).bind fun x101 =>
 (bif x101 then
 some true
 else
 (idx a0 i15).bind fun e192 =>
 (idx a1 i15).bind fun e222 =>
 some (!decide (e192.V = e222.V))).bind fun x178 =>
 (bif x178 then
 some true
 else
 (idx a0 i15).bind fun e269 =>
 (idx a1 i15).bind fun e303 =>
 some (!decide (e269.B = e303.B))).bind fun x255 =>
 bif x255 then
 outr (some false)
 else
 lett (w64 (i15 + 1)) fun i339 =>
 some (.next i339)
 else
 some (.brk ())
noncomputable def ref30_Same (a0 : List api_Fld) (a1 : List api_Fld) : Option Bool :=
 bif (!decide ((a0.length : Int) = (a1.length : Int))) then
 some false
 else
 flow (loop (ref30_Same_lp1 a0 a1) 0) fun (_ : Unit) =>
 some true
def rep_api_Fld : Rep api_Fld := Rep.via (Rep.pair Rep.i (Rep.pair Rep.i (Rep.pair Rep.u (Rep.sl Rep.b)))) fun d => (d.Num, d.Type_, d.V, d.B)
end Go.Lg
namespace Go.Lg
attribute [local irreducible] w64 toU64 toU8 shlU shrU shlB shrB
/-! ### a variable number's bytes -/
def varL (v : Nat) : List UInt8 := if v < 128 then [UInt8.ofNat v] else UInt8.ofNat (128 + v % 128) :: varL (v / 128)
termination_by v
decreasing_by omega
theorem varL_lt {v : Nat} (h : v < 128) : varL v = [UInt8.ofNat v] := by rw [varL, if_pos h]
theorem varL_ge {v : Nat} (h : ¬ v < 128) : varL v = UInt8.ofNat (128 + v % 128) :: varL (v / 128) := by rw [varL, if_neg h]
theorem varL_pos (v : Nat) : 0 < (varL v).length := by
  by_cases h : v < 128
  · rw [varL_lt h]; simp
  · rw [varL_ge h]; simp
theorem varL_len : ∀ (k v : Nat), v < 128 ^ (k + 1) → (varL v).length ≤ k + 1
  | 0, v, h => by rw [varL_lt (by omega)]; simp
  | k + 1, v, h => by
    by_cases h0 : v < 128
    · rw [varL_lt h0]; simp
    · rw [varL_ge h0]
      have := varL_len k (v / 128) (by rw [Nat.pow_succ] at h; omega)
      simp only [List.length_cons]; omega
theorem p128_10 : (128 : Nat) ^ (9 + 1) = 1180591620717411303424 := by decide
theorem varL_len10 {v : Nat} (h : v < 18446744073709551616) : (varL v).length ≤ 10 := varL_len 9 v (by rw [p128_10]; omega)
theorem or128 (x : UInt8) : x ||| 128 = UInt8.ofNat (128 + x.toNat % 128) := by
  apply UInt8.toNat_inj.1
  have h : ∀ n, n < 256 → n ||| 128 = 128 + n % 128 := by decide +kernel
  rw [UInt8.toNat_or, show (128 : UInt8).toNat = 128 from rfl, h _ (u8_lt' x), UInt8.toNat_ofNat']; omega
theorem u8_of {v : UInt64} (h : v.toNat < 128) : v.toUInt8 = UInt8.ofNat v.toNat := by
  apply UInt8.toNat_inj.1
  rw [UInt64.toNat_toUInt8, UInt8.toNat_ofNat']
theorem n127 : (127 : UInt64).toNat = 127 := rfl
theorem WVar_lp : ∀ (n : Nat) (v : UInt64) (out : List UInt8), v.toNat ≤ n → out.length + (varL v.toNat).length ≤ 17179869184 →
    ∃ v' out', loop wire_Var_lp1 (v, out) = some (.go (v', out')) ∧ v'.toNat < 128 ∧ out' ++ [UInt8.ofNat v'.toNat] = out ++ varL v.toNat := by
  intro n
  induction n using Nat.strongRecOn with
  | _ n ih =>
    intro v out hn hl
    by_cases h : v.toNat < 128
    · refine ⟨v, out, loop_brk ?_, h, by rw [varL_lt h]⟩
      unfold wire_Var_lp1
      dsimp only
      rw [bifFd (by rw [UInt64.lt_iff_toNat_lt, n127]; omega)]
    · have hs : (shrU v ((7 : UInt64).toNat)).toNat = v.toNat / 128 := shrU_nat v (n := 7) (by omega)
      have hv := varL_ge h
      have hl2 : (varL v.toNat).length = (varL (v.toNat / 128)).length + 1 := by rw [hv]; simp
      have hx : v.toUInt8 ||| 128 = UInt8.ofNat (128 + v.toNat % 128) := by
        rw [or128, UInt64.toNat_toUInt8, Nat.mod_mod_of_dvd _ (by decide : 128 ∣ 2 ^ 8)]
      obtain ⟨v', out', h1, h2, h3⟩ := ih (v.toNat / 128) (by omega) (shrU v ((7 : UInt64).toNat)) (out ++ [UInt8.ofNat (128 + v.toNat % 128)]) (by omega) (by rw [hs]; simp only [List.length_append, List.length_singleton]; omega)
      refine ⟨v', out', ?_, h2, ?_⟩
      · rw [← h1]
        refine loop_next ?_
        unfold wire_Var_lp1
        dsimp only
        rw [bifTd (by rw [UInt64.lt_iff_toNat_lt, n127]; omega), hx, app_ok (by have := varL_pos (v.toNat / 128); simp only [List.length_singleton]; omega), bind_some, lett_eq]
      · rw [h3, hs, hv]; simp
theorem WVar_eq (v : UInt64) : wire_Var v = some (varL v.toNat) := by
  have hl := varL_len10 (UInt64.toNat_lt v)
  obtain ⟨v', out', h1, h2, h3⟩ := WVar_lp v.toNat v [] (Nat.le_refl _) (by simp only [List.length_nil]; omega)
  unfold wire_Var
  have hl2 := congrArg List.length h3
  simp only [List.length_append, List.length_singleton, List.length_nil] at hl2
  rw [h1, flow_go]
  dsimp only
  rw [bind_some]
  dsimp only
  rw [u8_of h2, app_ok (by simp only [List.length_singleton]; omega), bind_some, h3]; rfl
theorem RVar_N : ∀ (k : Nat) (v : UInt64) (x : List UInt8), ref30_VarN k v = some x → x = varL v.toNat
  | 0, v, x, h => by cases h
  | k + 1, v, x, h => by
    have h : ref30_VarB (ref30_VarN k) v = some x := h
    unfold ref30_VarB at h
    by_cases hv : v.toNat < 128
    · rw [bifTd (by rw [UInt64.lt_iff_toNat_lt]; exact hv)] at h
      cases h
      rw [varL_lt hv, u8_of hv]
    · rw [bifFd (by rw [UInt64.lt_iff_toNat_lt]; exact hv)] at h
      cases hr : ref30_VarN k (v / 128) with
      | none => rw [hr] at h; cases h
      | some r =>
        rw [hr, bind_some] at h
        have e := RVar_N k _ _ hr
        have hd : (v / 128).toNat = v.toNat / 128 := by rw [UInt64.toNat_div]; rfl
        rw [hd] at e
        have hm : ((128 : UInt64) + v % 128).toUInt8 = UInt8.ofNat (128 + v.toNat % 128) := by
          apply UInt8.toNat_inj.1
          rw [UInt64.toNat_toUInt8, UInt8.toNat_ofNat', UInt64.toNat_add, UInt64.toNat_mod, show (128 : UInt64).toNat = 128 from rfl]; omega
        have hl := varL_len10 (v := v.toNat / 128) (by have := UInt64.toNat_lt v; omega)
        rw [hm, app_ok (by rw [e]; simp only [List.length_singleton]; omega), bind_some] at h
        cases h
        rw [varL_ge hv, e]; rfl
theorem RVar_some : ∀ (k : Nat) (v : UInt64), v.toNat < 128 ^ (k + 1) → ref30_VarN (k + 1) v = some (varL v.toNat)
  | 0, v, h => by
    show ref30_VarB (ref30_VarN 0) v = _
    unfold ref30_VarB
    rw [bifTd (by rw [UInt64.lt_iff_toNat_lt]; exact (by omega : v.toNat < 128)), u8_of (by omega), varL_lt (by omega)]
  | k + 1, v, h => by
    show ref30_VarB (ref30_VarN (k + 1)) v = _
    unfold ref30_VarB
    by_cases hv : v.toNat < 128
    · rw [bifTd (by rw [UInt64.lt_iff_toNat_lt]; exact hv), u8_of hv, varL_lt hv]
    · have hd : (v / 128).toNat = v.toNat / 128 := by rw [UInt64.toNat_div]; rfl
      have hm : ((128 : UInt64) + v % 128).toUInt8 = UInt8.ofNat (128 + v.toNat % 128) := by
        apply UInt8.toNat_inj.1
        rw [UInt64.toNat_toUInt8, UInt8.toNat_ofNat', UInt64.toNat_add, UInt64.toNat_mod, show (128 : UInt64).toNat = 128 from rfl]; omega
      have hl := varL_len10 (v := v.toNat / 128) (by have := UInt64.toNat_lt v; omega)
      rw [bifFd (by rw [UInt64.lt_iff_toNat_lt]; exact hv), RVar_some k (v / 128) (by rw [hd]; rw [Nat.pow_succ] at h; omega), bind_some, hd, hm, app_ok (by simp only [List.length_singleton]; omega), bind_some, varL_ge hv]; rfl
theorem RVar_eq (v : UInt64) : ref30_Var v = some (varL v.toNat) :=
  fuel_of (fun k x h => RVar_N k v x h) (RVar_some 9 v (by have := UInt64.toNat_lt v; rw [p128_10]; omega))
/-! ### the number that stands at the beginning of bytes -/
def leV : List UInt8 → Nat
  | [] => 0
  | x :: l => x.toNat % 128 + 128 * leV l
/-- how many of the first bytes go on -/
def cnt : List UInt8 → Nat
  | [] => 0
  | x :: l => if 128 ≤ x.toNat then 1 + cnt l else 0
theorem cnt_le : ∀ l : List UInt8, cnt l ≤ l.length
  | [] => by simp [cnt]
  | x :: l => by have := cnt_le l; rw [cnt]; split <;> simp only [List.length_cons] <;> omega
theorem cnt_lt : ∀ (l : List UInt8) (j : Nat) (h : j < l.length), j < cnt l → 128 ≤ (l[j]).toNat
  | [], j, h, _ => by simp at h
  | x :: l, j, h, hc => by
    rw [cnt] at hc
    split at hc
    · cases j with
      | zero => assumption
      | succ j => exact cnt_lt l j (by simpa using h) (by omega)
    · omega
theorem cnt_at : ∀ (l : List UInt8) (h : cnt l < l.length), (l[cnt l]).toNat < 128
  | [], h => by simp at h
  | x :: l, h => by
    by_cases hx : 128 ≤ x.toNat
    · have e : cnt (x :: l) = cnt l + 1 := by rw [cnt, if_pos hx]; omega
      simp only [e, List.getElem_cons_succ]
      exact cnt_at l (by rw [e] at h; simpa using h)
    · have e : cnt (x :: l) = 0 := by rw [cnt, if_neg hx]
      simp only [e, List.getElem_cons_zero]; omega
theorem leV_snoc : ∀ (l : List UInt8) (x : UInt8), leV (l ++ [x]) = leV l + 128 ^ l.length * (x.toNat % 128)
  | [], x => by simp [leV]
  | y :: l, x => by
    rw [List.cons_append, leV, leV, leV_snoc l x, List.length_cons, Nat.pow_succ, Nat.mul_add, Nat.mul_comm (128 ^ l.length) 128, Nat.mul_assoc]; omega
theorem leV_lt : ∀ l : List UInt8, leV l < 128 ^ l.length
  | [] => by simp [leV]
  | x :: l => by have := leV_lt l; rw [leV, List.length_cons, Nat.pow_succ]; omega
def gv (l : List UInt8) : UInt64 × Int × Int :=
  if 10 ≤ cnt l then (0, 0, 3)
  else if cnt l = l.length then (0, 0, 2)
  else if (cnt l = 9 ∧ 1 < (l.getD (cnt l) 0).toNat) ∨ (0 < cnt l ∧ l.getD (cnt l) 0 = 0) then (0, 0, 3)
  else (UInt64.ofNat (leV (l.take (cnt l + 1))), ((cnt l + 1 : Nat) : Int), 0)
end Go.Lg
namespace Go.Lg
attribute [local irreducible] w64 toU64 toU8 shlU shrU shlB shrB
theorem take_snoc8 {l : List UInt8} {i : Nat} (h : i < l.length) : l.take (i + 1) = l.take i ++ [l[i]] := by
  rw [List.take_add_one, List.getElem?_eq_getElem h]; rfl
theorem p7 (i : Nat) : 128 ^ i = 2 ^ (7 * i) := by rw [Nat.pow_mul]
theorem p7_le {i : Nat} (h : i ≤ 8) : 2 ^ (7 * i) ≤ 72057594037927936 := by
  have : 2 ^ (7 * i) ≤ 2 ^ 56 := Nat.pow_le_pow_right (by omega) (by omega)
  simpa using this
theorem and127 (x : UInt8) : ((x &&& 127).toUInt64).toNat = x.toNat % 128 := by
  have h : ∀ n, n < 256 → n &&& 127 = n % 128 := by decide +kernel
  rw [UInt8.toNat_toUInt64, UInt8.toNat_and, show (127 : UInt8).toNat = 127 from rfl, h _ (u8_lt' x)]
theorem gv_step {t : List UInt8} {i : Nat} (h : i < t.length) (hi : i ≤ 9) (h9 : i = 9 → (t[i]).toNat ≤ 1) :
    UInt64.ofNat (leV (t.take i)) ||| shlU ((t[i] &&& 127).toUInt64) ((toU64 (w64 (7 * (i : Int)))).toNat) = UInt64.ofNat (leV (t.take (i + 1))) := by
  have e1 : (toU64 (w64 (7 * (i : Int)))).toNat = 7 * i := by
    rw [show (7 : Int) * (i : Int) = ((7 * i : Nat) : Int) by omega, w64_nat (by omega), toU64_nat (by omega)]
  have hb := leV_lt (t.take i)
  rw [List.length_take, Nat.min_eq_left (by omega), p7] at hb
  have hm : t[i].toNat % 128 < 128 := Nat.mod_lt _ (by omega)
  have hlt : ((t[i] &&& 127).toUInt64).toNat * 2 ^ (7 * i) < 2 ^ 64 := by
    rw [and127]
    by_cases e : i = 9
    · have h1 := h9 e
      subst e
      have : (2 : Nat) ^ (7 * 9) = 9223372036854775808 := by decide
      rw [this]
      have : t[9].toNat % 128 ≤ 1 := by omega
      omega
    · have := p7_le (i := i) (by omega)
      have h2 : t[i].toNat % 128 * 2 ^ (7 * i) ≤ 127 * 72057594037927936 := Nat.mul_le_mul (by omega) this
      omega
  have hs := shlU_nat ((t[i] &&& 127).toUInt64) (n := 7 * i) (by omega) hlt
  have hsn : leV (t.take (i + 1)) = leV (t.take i) + 2 ^ (7 * i) * (t[i].toNat % 128) := by
    rw [take_snoc8 h, leV_snoc, List.length_take, Nat.min_eq_left (by omega), p7]
  rw [and127] at hs hlt
  have hlo : leV (t.take i) < 18446744073709551616 := by
    have : 2 ^ (7 * i) ≤ 2 ^ 63 := Nat.pow_le_pow_right (by omega) (by omega)
    have e : (2 : Nat) ^ 63 = 9223372036854775808 := by decide
    omega
  apply UInt64.toNat_inj.1
  rw [UInt64.toNat_or, e1, hs, UInt64.toNat_ofNat', Nat.mod_eq_of_lt hlo, Nat.or_comm, or_add hb, UInt64.toNat_ofNat', hsn, Nat.mul_comm (2 ^ (7 * i)) (t[i].toNat % 128)]
  have hs2 : t[i].toNat % 128 * 2 ^ (7 * i) + leV (t.take i) < 2 ^ 64 := by
    have : t[i].toNat % 128 * 2 ^ (7 * i) + 2 ^ (7 * i) ≤ 2 ^ 64 := by
      rw [← Nat.succ_mul]
      by_cases e : i = 9
      · have h1 := h9 e
        subst e
        have : (2 : Nat) ^ (7 * 9) = 9223372036854775808 := by decide
        rw [this]
        have : t[9].toNat % 128 ≤ 1 := by omega
        omega
      · have := p7_le (i := i) (by omega)
        have h2 : (t[i].toNat % 128).succ * 2 ^ (7 * i) ≤ 128 * 72057594037927936 := Nat.mul_le_mul (by omega) this
        omega
    omega
  rw [Nat.add_comm (leV (t.take i)), Nat.mod_eq_of_lt hs2]
theorem getD8 {l : List UInt8} {i : Nat} (h : i < l.length) : l.getD i 0 = l[i] := by
  rw [List.getD_eq_getElem?_getD, List.getElem?_eq_getElem h]; rfl
theorem WGet_lp (t : List UInt8) (hl : t.length ≤ 1000000) : loop (wire_GetVar_lp1 t) (0, 0) = some (if cnt t < 10 ∧ cnt t = t.length then .go () else .out (gv t)) := by
  have key : ∀ (m i : Nat), i + m = 9 → i ≤ cnt t → loop (wire_GetVar_lp1 t) (UInt64.ofNat (leV (t.take i)), (i : Int)) = some (if cnt t < 10 ∧ cnt t = t.length then .go () else .out (gv t)) := by
    intro m
    induction m with
    | zero =>
      intro i hi hc
      obtain rfl : i = 9 := by omega
      have hcl := cnt_le t
      by_cases h : 9 < t.length
      · rw [if_neg (by omega)]
        refine loop_out ?_
        unfold wire_GetVar_lp1
        dsimp only
        rw [bifTd (by omega), idx_nat h, bind_some]
        by_cases h1 : 1 < t[9].toNat
        · rw [bifT (by rw [Bool.and_eq_true]; exact ⟨decide_eq_true (by omega), decide_eq_true (by rw [UInt8.lt_iff_toNat_lt]; exact h1)⟩)]
          unfold gv
          by_cases hc10 : 10 ≤ cnt t
          · rw [if_pos hc10]; rfl
          · have e9 : cnt t = 9 := by omega
            rw [if_neg hc10, if_neg (by omega), if_pos (.inl ⟨e9, by rw [e9, getD8 h]; exact h1⟩)]; rfl
        · have e9 : cnt t = 9 := by
            have := cnt_lt t 9 h
            omega
          rw [bifF (by rw [Bool.and_eq_false_iff]; exact .inr (decide_eq_false (by rw [UInt8.lt_iff_toNat_lt]; exact h1))), gv_step h (by omega) (fun _ => by omega), lett_eq, bifTd (by rw [UInt8.lt_iff_toNat_lt]; exact (by omega : t[9].toNat < 128))]
          unfold gv
          rw [if_neg (by omega), if_neg (by omega)]
          by_cases h0 : t[9] = 0
          · rw [bifT (by rw [Bool.and_eq_true]; exact ⟨decide_eq_true h0, decide_eq_true (by omega)⟩), if_pos (.inr ⟨by omega, by rw [e9, getD8 h]; exact h0⟩)]; rfl
          · rw [bifF (by rw [Bool.and_eq_false_iff]; exact .inl (decide_eq_false h0)), if_neg (by rw [e9, getD8 h]; exact fun e => e.elim (fun e => h1 e.2) (fun e => h0 e.2)), lett_eq, w64_succ (by omega), e9]; rfl
      · rw [if_pos (by omega)]
        refine loop_brk ?_
        unfold wire_GetVar_lp1
        dsimp only
        rw [bifFd (by omega)]
    | succ m ih =>
      intro i hi hc
      have hcl := cnt_le t
      by_cases h : i < t.length
      · by_cases hlt : i < cnt t
        · have hb := cnt_lt t i h hlt
          rw [← ih (i + 1) (by omega) (by omega)]
          refine loop_next ?_
          unfold wire_GetVar_lp1
          dsimp only
          rw [bifTd (by omega), idx_nat h, bind_some, bifF (by rw [Bool.and_eq_false_iff]; exact .inl (decide_eq_false (by omega))), gv_step h (by omega) (fun _ => by omega), lett_eq, bifFd (by rw [UInt8.lt_iff_toNat_lt]; exact (by omega : ¬ t[i].toNat < 128)), w64_succ (by omega)]
        · have ec : cnt t = i := by omega
          have hb := cnt_at t (by omega)
          simp only [ec] at hb
          rw [if_neg (by omega)]
          refine loop_out ?_
          unfold wire_GetVar_lp1
          dsimp only
          rw [bifTd (by omega), idx_nat h, bind_some, bifF (by rw [Bool.and_eq_false_iff]; exact .inl (decide_eq_false (by omega))), gv_step h (by omega) (fun _ => by omega), lett_eq, bifTd (by rw [UInt8.lt_iff_toNat_lt]; exact hb)]
          unfold gv
          rw [if_neg (by omega), if_neg (by omega)]
          by_cases h0 : t[i] = 0 ∧ 0 < i
          · rw [bifT (by rw [Bool.and_eq_true]; exact ⟨decide_eq_true h0.1, decide_eq_true (by omega)⟩), if_pos (.inr ⟨by omega, by rw [ec, getD8 h]; exact h0.1⟩)]; rfl
          · rw [bifF (by rw [Bool.and_eq_false_iff]; exact (Decidable.em (t[i] = 0)).elim (fun q => .inr (decide_eq_false (fun e => h0 ⟨q, by omega⟩))) (fun q => .inl (decide_eq_false q))), if_neg (by rw [ec, getD8 h]; exact fun e => e.elim (fun e => absurd e.1 (by omega)) (fun e => h0 ⟨e.2, e.1⟩)), lett_eq, w64_succ (by omega), ec]; rfl
      · rw [if_pos (by omega)]
        refine loop_brk ?_
        unfold wire_GetVar_lp1
        dsimp only
        rw [bifFd (by omega)]
  have k0 := key 9 0 (by omega) (by omega)
  exact k0
theorem WGet_eq {b : List UInt8} {at_ : Nat} (hl : b.length ≤ 1000000) (h : at_ ≤ b.length) : wire_GetVar b (at_ : Int) = some (gv (b.drop at_)) := by
  unfold wire_GetVar
  rw [bifF (by rw [Bool.or_eq_false_iff]; exact ⟨decide_eq_false (by omega), decide_eq_false (by omega)⟩), slc_nat h (Nat.le_refl _), bind_some, List.take_length, WGet_lp _ (by simp; omega)]
  by_cases hs : cnt (b.drop at_) < 10 ∧ cnt (b.drop at_) = (b.drop at_).length
  · rw [if_pos hs]
    unfold gv
    rw [if_neg (by omega), if_pos hs.2]; rfl
  · rw [if_neg hs]; rfl
end Go.Lg
namespace Go.Lg
attribute [local irreducible] w64 toU64 toU8 shlU shrU shlB shrB
/-! ### a number has one form -/
theorem leV_one (x : UInt8) : leV [x] = x.toNat % 128 := by simp [leV]
theorem canon : ∀ (l : List UInt8) (h : cnt l < l.length), (0 < cnt l → l[cnt l] ≠ 0) → varL (leV (l.take (cnt l + 1))) = l.take (cnt l + 1)
  | [], h, _ => by simp at h
  | x :: l, h, hz => by
    have hx8 := u8_lt' x
    by_cases hx : 128 ≤ x.toNat
    · have e : cnt (x :: l) = cnt l + 1 := by rw [cnt, if_pos hx]; omega
      simp only [e] at h hz ⊢
      have hl : cnt l < l.length := by simpa using h
      have hz' : l[cnt l] ≠ 0 := by simpa using hz (by omega)
      have ih := canon l hl (fun _ => hz')
      have hV : leV (l.take (cnt l + 1)) ≠ 0 := by
        intro e0
        rw [e0, varL_lt (by omega)] at ih
        have hlen := congrArg List.length ih
        rw [List.length_take] at hlen
        simp only [List.length_singleton] at hlen
        have c0 : cnt l = 0 := by omega
        rw [take_snoc8 hl] at ih
        simp only [c0, List.take_zero, List.nil_append] at ih
        apply hz'
        simp only [c0]
        exact (List.cons.inj ih).1.symm
      rw [List.take_succ_cons, leV, varL_ge (by omega)]
      rw [show (x.toNat % 128 + 128 * leV (l.take (cnt l + 1))) / 128 = leV (l.take (cnt l + 1)) by omega, ih]
      congr 1
      apply UInt8.toNat_inj.1
      rw [UInt8.toNat_ofNat']; omega
    · have e : cnt (x :: l) = 0 := by rw [cnt, if_neg hx]
      simp only [e]
      rw [List.take_succ_cons, List.take_zero, leV_one, varL_lt (by omega)]
      congr 1
      apply UInt8.toNat_inj.1
      rw [UInt8.toNat_ofNat']; omega
theorem gv_ok {l : List UInt8} (h : (gv l).2.2 = 0) : ∃ n : Nat, (gv l).2.1 = n ∧ 1 ≤ n ∧ n ≤ l.length ∧ l.take n = varL (gv l).1.toNat := by
  have hcl := cnt_le l
  unfold gv at h ⊢
  by_cases h1 : 10 ≤ cnt l
  · rw [if_pos h1] at h; exact absurd h (by decide)
  rw [if_neg h1] at h ⊢
  by_cases h2 : cnt l = l.length
  · rw [if_pos h2] at h; exact absurd h (by decide)
  rw [if_neg h2] at h ⊢
  by_cases h3 : (cnt l = 9 ∧ 1 < (l.getD (cnt l) 0).toNat) ∨ (0 < cnt l ∧ l.getD (cnt l) 0 = 0)
  · rw [if_pos h3] at h; exact absurd h (by decide)
  rw [if_neg h3]
  have hlt : cnt l < l.length := by omega
  rw [getD8 hlt] at h3
  refine ⟨cnt l + 1, rfl, by omega, by omega, ?_⟩
  have hc := canon l hlt (fun h0 e => h3 (.inr ⟨h0, e⟩))
  have hb : leV (l.take (cnt l + 1)) < 18446744073709551616 := by
    have h8 := leV_lt (l.take (cnt l + 1))
    have hlen : (l.take (cnt l + 1)).length = cnt l + 1 := by rw [List.length_take]; omega
    by_cases e9 : cnt l = 9
    · have h7 := leV_lt (l.take (cnt l))
      have hl1 : ¬ 1 < (l[cnt l]).toNat := fun e => h3 (.inl ⟨e9, e⟩)
      rw [List.length_take, Nat.min_eq_left hcl] at h7
      rw [take_snoc8 hlt, leV_snoc, List.length_take, Nat.min_eq_left hcl]
      generalize l[cnt l] = y at hl1 ⊢
      rw [e9] at h7 ⊢
      have p9 : (128 : Nat) ^ 9 = 9223372036854775808 := by decide
      rw [p9] at h7 ⊢
      omega
    · rw [hlen] at h8
      have : (128 : Nat) ^ (cnt l + 1) ≤ 128 ^ 9 := Nat.pow_le_pow_right (by omega) (by omega)
      have p9 : (128 : Nat) ^ 9 = 9223372036854775808 := by decide
      omega
  dsimp only
  rw [UInt64.toNat_ofNat', Nat.mod_eq_of_lt hb, hc]
theorem varL_facts (r : List UInt8) : ∀ (n v : Nat), v ≤ n → cnt (varL v ++ r) + 1 = (varL v).length ∧ leV (varL v) = v ∧ (1 < (varL v).length → (varL v).getD ((varL v).length - 1) 0 ≠ 0) := by
  intro n
  induction n using Nat.strongRecOn with
  | _ n ih =>
    intro v hv
    by_cases h : v < 128
    · rw [varL_lt h]
      have e : (UInt8.ofNat v).toNat = v := by rw [UInt8.toNat_ofNat']; omega
      refine ⟨?_, ?_, fun h => by simp at h⟩
      · rw [List.singleton_append, cnt, e, if_neg (by omega)]; rfl
      · rw [leV_one, e]; omega
    · obtain ⟨i1, i2, i3⟩ := ih (v / 128) (by omega) (v / 128) (Nat.le_refl _)
      have hp := varL_pos (v / 128)
      have e : (UInt8.ofNat (128 + v % 128)).toNat = 128 + v % 128 := by rw [UInt8.toNat_ofNat']; omega
      rw [varL_ge h]
      refine ⟨?_, ?_, fun _ => ?_⟩
      · rw [List.cons_append, cnt, e, if_pos (by omega), List.length_cons]; omega
      · rw [leV, e, i2]; omega
      · rw [List.length_cons, Nat.add_sub_cancel]
        obtain ⟨q, hq⟩ : ∃ q, (varL (v / 128)).length = q + 1 := ⟨(varL (v / 128)).length - 1, by omega⟩
        rw [hq, List.getD_cons_succ]
        by_cases h1 : 1 < (varL (v / 128)).length
        · have := i3 h1
          rwa [hq, Nat.add_sub_cancel] at this
        · have q0 : q = 0 := by omega
          have hs : v / 128 < 128 := by
            apply Decidable.byContradiction
            intro hge
            rw [varL_ge hge, List.length_cons] at h1
            have := varL_pos (v / 128 / 128)
            omega
          rw [q0, varL_lt hs]
          intro e0
          have e1 : (UInt8.ofNat (v / 128)).toNat = 0 := by
            have e2 : UInt8.ofNat (v / 128) = 0 := by simpa using e0
            rw [e2]; rfl
          rw [UInt8.toNat_ofNat'] at e1
          omega
theorem gv_var {v : Nat} (hv : v < 18446744073709551616) (r : List UInt8) : gv (varL v ++ r) = (UInt64.ofNat v, ((varL v).length : Int), 0) := by
  obtain ⟨h1, h2, h3⟩ := varL_facts r v v (Nat.le_refl _)
  have h10 := varL_len10 hv
  have hp := varL_pos v
  have hc : cnt (varL v ++ r) = (varL v).length - 1 := by omega
  have hg : (varL v ++ r).getD ((varL v).length - 1) 0 = (varL v).getD ((varL v).length - 1) 0 := by
    rw [List.getD_eq_getElem?_getD, List.getElem?_append_left (by omega), ← List.getD_eq_getElem?_getD]
  unfold gv
  rw [hc, if_neg (by omega), if_neg (by rw [List.length_append]; omega), hg, if_neg]
  · rw [Nat.sub_add_cancel hp, List.take_left, h2]
  · intro e
    rcases e with ⟨e1, e2⟩ | ⟨e1, e2⟩
    · have hlen : (varL v).length = 10 := by omega
      rw [hlen, getD8 (by omega)] at e2
      have hs := take_snoc8 (l := varL v) (i := 9) (by omega)
      rw [List.take_of_length_le (by omega)] at hs
      have := congrArg leV hs
      rw [h2, leV_snoc] at this
      have hat := cnt_at (varL v ++ r) (by rw [hc, List.length_append]; omega)
      simp only [hc, hlen] at hat
      rw [List.getElem_append_left (by omega)] at hat
      have e2' : 1 < ((varL v)[9]'(by omega)).toNat := e2
      have hat' : ((varL v)[9]'(by omega)).toNat < 128 := hat
      clear e2 hat hs
      generalize (varL v)[9]'(by omega) = y at *
      rw [List.length_take, hlen] at this
      have p9 : (128 : Nat) ^ (min 9 10) = 9223372036854775808 := by decide
      rw [p9] at this
      omega
    · exact h3 (by omega) e2
/-! ### eight bytes -/
def le8 : List UInt8 → Nat
  | [] => 0
  | x :: l => x.toNat + 256 * le8 l
theorem le8_snoc : ∀ (l : List UInt8) (x : UInt8), le8 (l ++ [x]) = le8 l + 256 ^ l.length * x.toNat
  | [], x => by simp [le8]
  | y :: l, x => by
    rw [List.cons_append, le8, le8, le8_snoc l x, List.length_cons, Nat.pow_succ, Nat.mul_add, Nat.mul_comm (256 ^ l.length) 256, Nat.mul_assoc]; omega
theorem le8_lt : ∀ l : List UInt8, le8 l < 256 ^ l.length
  | [] => by simp [le8]
  | x :: l => by have := le8_lt l; have := u8_lt' x; rw [le8, List.length_cons, Nat.pow_succ]; omega
def eightL (v : Nat) : List UInt8 := (List.range 8).map fun (i : Nat) => UInt8.ofNat (v / 256 ^ i)
end Go.Lg
namespace Go.Lg
attribute [local irreducible] w64 toU64 toU8 shlU shrU shlB shrB
theorem p256' (i : Nat) : 256 ^ i = 2 ^ (8 * i) := by rw [Nat.pow_mul]
theorem eight_get {v i : Nat} (h : i < 8) : (eightL v)[i]'(by simp [eightL]; exact h) = UInt8.ofNat (v / 256 ^ i) := by simp [eightL]
theorem eight_len (v : Nat) : (eightL v).length = 8 := by simp [eightL]
theorem Weight_eq (v : UInt64) : wire_eight v = some (eightL v.toNat) := by
  have key : ∀ (m i : Nat) (z : List UInt8), i + m = 8 → z.length = 8 → z.take i = (eightL v.toNat).take i → loop (wire_eight_lp1 v (List.replicate 8 0)) (z, (i : Int)) = some (.go (eightL v.toNat)) := by
    intro m
    induction m with
    | zero =>
      intro i z hi hz ht
      refine loop_brk ?_
      unfold wire_eight_lp1
      dsimp only
      rw [bifFd (by simp; omega)]
      have e8 := eight_len v.toNat
      rw [List.take_of_length_le (by omega), List.take_of_length_le (by omega)] at ht
      rw [ht]
    | succ m ih =>
      intro i z hi hz ht
      have hlt : i < z.length := by omega
      have e1 : (toU64 (w64 (8 * (i : Int)))).toNat = 8 * i := by
        rw [show (8 : Int) * (i : Int) = ((8 * i : Nat) : Int) by omega, w64_nat (by omega), toU64_nat (by omega)]
      have e2 : (shrU v (8 * i)).toUInt8 = UInt8.ofNat (v.toNat / 256 ^ i) := by
        apply UInt8.toNat_inj.1
        rw [UInt64.toNat_toUInt8, shrU_nat _ (by omega), UInt8.toNat_ofNat', p256']
      rw [← ih (i + 1) (z.set i (UInt8.ofNat (v.toNat / 256 ^ i))) (by omega) (by simpa using hz) (by
        rw [take_snoc8 (by simpa using hlt), take_snoc8 (by rw [eight_len]; omega), List.take_set_of_le (Nat.le_refl i), ht, List.getElem_set_self, eight_get (by omega)])]
      refine loop_next ?_
      unfold wire_eight_lp1
      dsimp only
      rw [bifTd (by simp; omega), idx_nat hlt, bind_some, lett_eq, e1, e2, setI_nat hlt, bind_some, w64_succ (by omega)]
  have hm : mk 8 (0 : UInt8) = some (List.replicate 8 0) := by
    unfold mk LIM
    rw [if_pos (by omega)]; rfl
  unfold wire_eight
  rw [hm, bind_some]
  have k0 : loop (wire_eight_lp1 v (List.replicate 8 0)) (List.replicate 8 0, 0) = _ := key 8 0 (List.replicate 8 0) (by omega) (by simp) (by simp)
  rw [k0, flow_go]
theorem field_step {t : List UInt8} {i : Nat} (h : i < t.length) (hi : i ≤ 7) :
    UInt64.ofNat (le8 (t.take i)) ||| shlU (t[i].toUInt64) ((toU64 (w64 (8 * (i : Int)))).toNat) = UInt64.ofNat (le8 (t.take (i + 1))) := by
  have e1 : (toU64 (w64 (8 * (i : Int)))).toNat = 8 * i := by
    rw [show (8 : Int) * (i : Int) = ((8 * i : Nat) : Int) by omega, w64_nat (by omega), toU64_nat (by omega)]
  have hb := le8_lt (t.take i)
  rw [List.length_take, Nat.min_eq_left (by omega), p256'] at hb
  have hp : 2 ^ (8 * i) ≤ 72057594037927936 := by
    have : 2 ^ (8 * i) ≤ 2 ^ 56 := Nat.pow_le_pow_right (by omega) (by omega)
    simpa using this
  have hx := u8_lt' t[i]
  have hs2 : (t[i]).toNat * 2 ^ (8 * i) + le8 (t.take i) < 2 ^ 64 := by
    have h2 : (t[i].toNat).succ * 2 ^ (8 * i) ≤ 256 * 72057594037927936 := Nat.mul_le_mul (by omega) hp
    rw [Nat.succ_mul] at h2
    omega
  have hs := shlU_nat (t[i].toUInt64) (n := 8 * i) (by omega) (by rw [UInt8.toNat_toUInt64]; omega)
  have hsn : le8 (t.take (i + 1)) = le8 (t.take i) + 2 ^ (8 * i) * (t[i]).toNat := by
    rw [take_snoc8 h, le8_snoc, List.length_take, Nat.min_eq_left (by omega), p256']
  rw [UInt8.toNat_toUInt64] at hs
  apply UInt64.toNat_inj.1
  rw [UInt64.toNat_or, e1, hs, UInt64.toNat_ofNat', Nat.mod_eq_of_lt (by omega : le8 (t.take i) < 2 ^ 64), Nat.or_comm, or_add hb, UInt64.toNat_ofNat', hsn, Nat.mul_comm (2 ^ (8 * i)) (t[i].toNat)]
  rw [Nat.add_comm (le8 (t.take i)), Nat.mod_eq_of_lt hs2]
theorem Wfield_lp {t : List UInt8} (h : t.length = 8) : loop (wire_field_lp1 t) (0, 0) = some (.go (UInt64.ofNat (le8 t))) := by
  have key : ∀ (m i : Nat), i + m = 8 → loop (wire_field_lp1 t) (UInt64.ofNat (le8 (t.take i)), (i : Int)) = some (.go (UInt64.ofNat (le8 t))) := by
    intro m
    induction m with
    | zero =>
      intro i hi
      refine loop_brk ?_
      unfold wire_field_lp1
      dsimp only
      rw [bifFd (by omega), List.take_of_length_le (by omega)]
    | succ m ih =>
      intro i hi
      have hlt : i < t.length := by omega
      rw [← ih (i + 1) (by omega)]
      refine loop_next ?_
      unfold wire_field_lp1
      dsimp only
      rw [bifTd (by omega), idx_nat hlt, bind_some, lett_eq, field_step hlt (by omega), w64_succ (by omega)]
  exact key 8 0 (by omega)
/-! ### a field -/
def F0 : api_Fld := ⟨0, 0, 0, []⟩
def fieldS (l : List UInt8) : Int × api_Fld × Nat :=
  if (gv l).2.2 ≠ 0 then ((gv l).2.2, F0, 0)
  else if 2 < (gv l).1.toNat % 8 then (14, F0, 0)
  else if (gv l).1.toNat / 8 < 1 ∨ 536870911 < (gv l).1.toNat / 8 then (1, F0, 0)
  else if (gv l).1.toNat % 8 = 1 then
    if l.length - (gv l).2.1.toNat < 8 then (2, F0, 0)
    else (0, ⟨((gv l).1.toNat / 8 : Nat), 1, UInt64.ofNat (le8 ((l.drop (gv l).2.1.toNat).take 8)), []⟩, (gv l).2.1.toNat + 8)
  else if (gv (l.drop (gv l).2.1.toNat)).2.2 ≠ 0 then ((gv (l.drop (gv l).2.1.toNat)).2.2, F0, 0)
  else if (gv l).1.toNat % 8 = 0 then (0, ⟨((gv l).1.toNat / 8 : Nat), 0, (gv (l.drop (gv l).2.1.toNat)).1, []⟩, (gv l).2.1.toNat + (gv (l.drop (gv l).2.1.toNat)).2.1.toNat)
  else if l.length - ((gv l).2.1.toNat + (gv (l.drop (gv l).2.1.toNat)).2.1.toNat) < (gv (l.drop (gv l).2.1.toNat)).1.toNat then (2, F0, 0)
  else (0, ⟨((gv l).1.toNat / 8 : Nat), 2, 0, (l.drop ((gv l).2.1.toNat + (gv (l.drop (gv l).2.1.toNat)).2.1.toNat)).take (gv (l.drop (gv l).2.1.toNat)).1.toNat⟩, (gv l).2.1.toNat + (gv (l.drop (gv l).2.1.toNat)).2.1.toNat + (gv (l.drop (gv l).2.1.toNat)).1.toNat)
theorem and7 (v : UInt64) : (v &&& 7).toNat = v.toNat % 8 := by
  rw [UInt64.toNat_and, show (7 : UInt64).toNat = 2 ^ 3 - 1 from rfl, Nat.and_two_pow_sub_one_eq_mod]
theorem shr3 (v : UInt64) : (shrU v ((3 : UInt64).toNat)).toNat = v.toNat / 8 := shrU_nat v (n := 3) (by omega)
theorem n1 : (1 : UInt64).toNat = 1 := rfl
theorem n2 : (2 : UInt64).toNat = 2 := rfl
theorem n8 : (8 : UInt64).toNat = 8 := rfl
theorem nM : (536870911 : UInt64).toNat = 536870911 := rfl
theorem bclone_eq {l : List UInt8} (h : l.length ≤ 1000000) : bytes_Clone l = some l := by
  unfold bytes_Clone
  rw [app_ok (by simp only [List.length_nil]; omega)]; rfl
theorem Wfield_eq {b : List UInt8} {at_ : Nat} (hl : b.length ≤ 1000000) (h : at_ ≤ b.length) :
    ∃ f nx, wire_field b (at_ : Int) = some (f, nx, (fieldS (b.drop at_)).1) ∧ ((fieldS (b.drop at_)).1 = 0 → f = (fieldS (b.drop at_)).2.1 ∧ nx = ((at_ + (fieldS (b.drop at_)).2.2 : Nat) : Int)) := by
  have hdl : (b.drop at_).length = b.length - at_ := List.length_drop
  unfold wire_field
  rw [WGet_eq hl h, bind_some]
  by_cases h1 : (gv (b.drop at_)).2.2 = 0
  case neg =>
    have e : fieldS (b.drop at_) = ((gv (b.drop at_)).2.2, F0, 0) := by unfold fieldS; rw [if_pos h1]
    refine ⟨F0, 0, ?_, fun h0 => ?_⟩
    · dsimp only
      rw [bifT (by simp [h1]), e]; rfl
    · rw [e] at h0; exact absurd h0 h1
  obtain ⟨n, g1, g2, g3, g4⟩ := gv_ok h1
  generalize hg : gv (b.drop at_) = g at *
  obtain ⟨v, n', e'⟩ := g
  simp only at h1 g1 g4
  subst h1; subst g1
  dsimp only
  rw [bifF (by rfl), w64_addN (by omega), lett_eq]
  have hn : ((n : Int)).toNat = n := by omega
  by_cases h2 : 2 < v.toNat % 8
  · have e : fieldS (b.drop at_) = (14, F0, 0) := by unfold fieldS; rw [hg, if_neg (by simp), if_pos h2]
    refine ⟨F0, 0, ?_, fun h0 => ?_⟩
    · rw [bifTd (by rw [UInt64.lt_iff_toNat_lt, and7, n2]; exact h2), e]; rfl
    · rw [e] at h0; exact absurd h0 (by decide)
  rw [bifFd (by rw [UInt64.lt_iff_toNat_lt, and7, n2]; exact h2)]
  by_cases h3 : v.toNat / 8 < 1 ∨ 536870911 < v.toNat / 8
  · have e : fieldS (b.drop at_) = (1, F0, 0) := by unfold fieldS; rw [hg, if_neg (by simp), if_neg h2, if_pos h3]
    refine ⟨F0, 0, ?_, fun h0 => ?_⟩
    · rw [bifT (by rw [Bool.or_eq_true, decide_eq_true_eq, decide_eq_true_eq, UInt64.lt_iff_toNat_lt, UInt64.lt_iff_toNat_lt, shr3, n1, nM]; exact h3), e]; rfl
    · rw [e] at h0; exact absurd h0 (by decide)
  rw [bifF (by rw [Bool.or_eq_false_iff, decide_eq_false_iff_not, decide_eq_false_iff_not, UInt64.lt_iff_toNat_lt, UInt64.lt_iff_toNat_lt, shr3, n1, nM]; omega), shr3, and7, w64_nat (by omega), w64_nat (by omega), lett_eq, lett_eq]
  by_cases h4 : v.toNat % 8 = 1
  · rw [bifTd (by omega), w64_id (x := (b.length : Int) - ((at_ + n : Nat) : Int)) (by omega) (by omega)]
    by_cases h5 : b.length - (at_ + n) < 8
    · have e : fieldS (b.drop at_) = (2, F0, 0) := by unfold fieldS; rw [hg, if_neg (by simp), if_neg h2, if_neg h3, if_pos h4, if_pos (by dsimp only; omega)]
      refine ⟨⟨((v.toNat / 8 : Nat) : Int), ((v.toNat % 8 : Nat) : Int), 0, []⟩, 0, ?_, fun h0 => ?_⟩
      · rw [bifTd (by omega), e]
      · rw [e] at h0; exact absurd h0 (by decide)
    · have e : fieldS (b.drop at_) = (0, ⟨((v.toNat / 8 : Nat) : Int), 1, UInt64.ofNat (le8 (((b.drop at_).drop n).take 8)), []⟩, n + 8) := by unfold fieldS; rw [hg, if_neg (by simp), if_neg h2, if_neg h3, if_pos h4, if_neg (by dsimp only; omega)]; rfl
      have ed : (b.take (at_ + n + 8)).drop (at_ + n) = ((b.drop at_).drop n).take 8 := by
        rw [List.drop_drop, List.drop_take]; congr 1; omega
      refine ⟨⟨((v.toNat / 8 : Nat) : Int), 1, UInt64.ofNat (le8 (((b.drop at_).drop n).take 8)), []⟩, ((at_ + n + 8 : Nat) : Int), ?_, fun _ => ?_⟩
      · rw [bifFd (by omega), show ((at_ + n : Nat) : Int) + 8 = ((at_ + n + 8 : Nat) : Int) by omega, w64_nat (by omega), slc_nat (by omega) (by omega), bind_some, ed, Wfield_lp (by rw [List.length_take, List.length_drop, List.length_drop]; omega), flow_go, bind_some, lett_eq, e, h4]; rfl
      · rw [e]
        exact ⟨rfl, by dsimp only; omega⟩
  have edd : b.drop (at_ + n) = (b.drop at_).drop n := by rw [List.drop_drop]
  rw [bifFd (by omega), WGet_eq hl (by omega), bind_some, edd]
  by_cases h6 : (gv ((b.drop at_).drop n)).2.2 = 0
  case neg =>
    have e : fieldS (b.drop at_) = ((gv ((b.drop at_).drop n)).2.2, F0, 0) := by unfold fieldS; rw [hg, if_neg (by simp), if_neg h2, if_neg h3, if_neg h4]; dsimp only; rw [hn, if_pos h6]
    refine ⟨⟨((v.toNat / 8 : Nat) : Int), ((v.toNat % 8 : Nat) : Int), 0, []⟩, 0, ?_, fun h0 => ?_⟩
    · rw [bifT (by rw [Bool.not_eq_true', decide_eq_false_iff_not]; exact h6), e]
    · rw [e] at h0; exact absurd h0 h6
  obtain ⟨m, k1, k2, k3, k4⟩ := gv_ok h6
  have hdl2 : ((b.drop at_).drop n).length = b.length - (at_ + n) := by rw [List.length_drop]; omega
  generalize hg2 : gv ((b.drop at_).drop n) = g2' at *
  obtain ⟨v2, n2', e2'⟩ := g2'
  simp only at h6 k1 k4
  subst h6; subst k1
  dsimp only
  have hm : ((m : Int)).toNat = m := by omega
  rw [bifF (by rfl), w64_addN (by omega), lett_eq]
  by_cases h7 : v.toNat % 8 = 0
  · have e : fieldS (b.drop at_) = (0, ⟨((v.toNat / 8 : Nat) : Int), 0, v2, []⟩, n + m) := by unfold fieldS; rw [hg, if_neg (by simp), if_neg h2, if_neg h3, if_neg h4]; dsimp only; rw [hn, hg2, if_neg (by simp), if_pos h7]; rfl
    refine ⟨⟨((v.toNat / 8 : Nat) : Int), 0, v2, []⟩, ((at_ + n + m : Nat) : Int), ?_, fun _ => ?_⟩
    · rw [bifTd (by omega), e, h7]; rfl
    · rw [e]; exact ⟨rfl, by dsimp only; omega⟩
  rw [bifFd (by omega)]
  have e8 : (toU64 (w64 ((b.length : Int) - ((at_ + n + m : Nat) : Int)))).toNat = b.length - (at_ + n + m) := by
    rw [w64_subN (by omega) (by omega), toU64_nat (by omega)]
  by_cases h9 : b.length - (at_ + n + m) < v2.toNat
  · have e : fieldS (b.drop at_) = (2, F0, 0) := by unfold fieldS; rw [hg, if_neg (by simp), if_neg h2, if_neg h3, if_neg h4]; dsimp only; rw [hn, hg2, if_neg (by simp), if_neg h7, if_pos (by dsimp only; omega)]
    refine ⟨⟨((v.toNat / 8 : Nat) : Int), ((v.toNat % 8 : Nat) : Int), 0, []⟩, 0, ?_, fun h0 => ?_⟩
    · rw [bifTd (by rw [UInt64.lt_iff_toNat_lt, e8]; exact h9), e]
    · rw [e] at h0; exact absurd h0 (by decide)
  · have e : fieldS (b.drop at_) = (0, ⟨((v.toNat / 8 : Nat) : Int), 2, 0, ((b.drop at_).drop (n + m)).take v2.toNat⟩, n + m + v2.toNat) := by unfold fieldS; rw [hg, if_neg (by simp), if_neg h2, if_neg h3, if_neg h4]; dsimp only; rw [hn, hg2, if_neg (by simp), if_neg h7, if_neg (by dsimp only; omega)]; rfl
    have ed : (b.take (at_ + n + m + v2.toNat)).drop (at_ + n + m) = ((b.drop at_).drop (n + m)).take v2.toNat := by
      rw [List.drop_drop, List.drop_take, Nat.add_assoc at_ n m]; congr 1; omega
    have hc : (((b.drop at_).drop (n + m)).take v2.toNat).length ≤ 1000000 := by rw [List.length_take, List.length_drop, List.length_drop]; omega
    refine ⟨⟨((v.toNat / 8 : Nat) : Int), 2, 0, ((b.drop at_).drop (n + m)).take v2.toNat⟩, ((at_ + n + m + v2.toNat : Nat) : Int), ?_, fun _ => ?_⟩
    · rw [bifFd (by rw [UInt64.lt_iff_toNat_lt, e8]; exact h9), w64_nat (a := v2.toNat) (by omega), w64_addN (by omega), slc_nat (by omega) (by omega), bind_some, ed, bclone_eq hc, bind_some, lett_eq, e, show v.toNat % 8 = 2 by omega]; rfl
    · rw [e]; exact ⟨rfl, by dsimp only; omega⟩
end Go.Lg
namespace Go.Lg
attribute [local irreducible] w64 toU64 toU8 shlU shrU shlB shrB
/-! ### a field's bytes -/
structure FOk (f : api_Fld) : Prop where
  n1 : 1 ≤ f.Num
  n2 : f.Num ≤ 536870911
  t : f.Type_ = 0 ∨ f.Type_ = 1 ∨ f.Type_ = 2
  b : f.Type_ ≠ 2 → f.B = []
  v : f.Type_ = 2 → f.V = 0
def encF (f : api_Fld) : List UInt8 :=
  varL (8 * f.Num + f.Type_).toNat ++ (if f.Type_ = 0 then varL f.V.toNat else if f.Type_ = 1 then eightL f.V.toNat else varL f.B.length ++ f.B)
def encL (l : List api_Fld) : List UInt8 := l.flatMap encF
theorem encL_snoc (l : List api_Fld) (f : api_Fld) : encL (l ++ [f]) = encL l ++ encF f := by simp [encL]
theorem check_ok {f : api_Fld} (h : FOk f) : wire_check f = some 0 := by
  have a := h.n1; have b := h.n2; have t := h.t
  unfold wire_check
  rw [lett_eq, bifF (by rw [Bool.or_eq_false_iff]; exact ⟨decide_eq_false (by omega), decide_eq_false (by omega)⟩), lett_eq, bifF (by rw [Bool.or_eq_false_iff]; exact ⟨decide_eq_false (by omega), decide_eq_false (by omega)⟩), lett_eq]
  by_cases t2 : f.Type_ = 2
  · rw [bifF (by rw [decide_eq_true t2]; rfl), lett_eq, bifF (by rw [h.v t2, decide_eq_true t2]; rfl)]
  · rw [bifF (by rw [h.b t2, Bool.and_eq_false_iff]; exact .inr (decide_eq_false (by simp))), lett_eq, bifF (by rw [decide_eq_false t2]; rfl)]
theorem encF_tag (f : api_Fld) (h : FOk f) : (toU64 (w64 ((w64 (8 * f.Num)) + f.Type_))).toNat = (8 * f.Num + f.Type_).toNat := by
  have a := h.n1; have b := h.n2; have t := h.t
  rw [w64_id (x := 8 * f.Num) (by omega) (by omega), w64_id (by omega) (by omega), toU64_val (by omega) (by omega)]
theorem Encode_step {l : List api_Fld} {i : Nat} (h : i < l.length) (hn : l.length ≤ 1000000) (hf : FOk l[i]) {out : List UInt8} (hl : out.length + (encF l[i]).length ≤ 1000000) :
    wire_Encode_lp1 l (out, (i : Int)) = some (.next (out ++ encF l[i], ((i + 1 : Nat) : Int))) := by
  have t := hf.t
  have ht := encF_tag _ hf
  unfold wire_Encode_lp1
  dsimp only
  rw [bifTd (by omega), idx_nat h, bind_some, check_ok hf, bind_some, bifF (by rfl), WVar_eq, ht, bind_some]
  have hE : encF l[i] = varL (8 * l[i].Num + l[i].Type_).toNat ++ (if l[i].Type_ = 0 then varL l[i].V.toNat else if l[i].Type_ = 1 then eightL l[i].V.toNat else varL l[i].B.length ++ l[i].B) := rfl
  rw [hE] at hl ⊢
  rw [List.length_append] at hl
  rw [app_ok (by omega), bind_some, lett_eq]
  by_cases t0 : l[i].Type_ = 0
  · rw [if_pos t0] at hl ⊢
    rw [bifTd t0, WVar_eq, bind_some, app_ok (by rw [List.length_append]; omega), bind_some, bind_some, w64_succ (by omega), List.append_assoc]
  · rw [if_neg t0] at hl ⊢
    rw [bifFd t0, lett_eq]
    by_cases t1 : l[i].Type_ = 1
    · rw [if_pos t1] at hl ⊢
      rw [bifTd t1, Weight_eq, bind_some, app_ok (by rw [List.length_append]; omega), bind_some, bind_some, w64_succ (by omega), List.append_assoc]
    · have t2 : l[i].Type_ = 2 := by omega
      rw [if_neg t1] at hl ⊢
      rw [List.length_append] at hl
      rw [bifFd t1, lett_eq, bifTd t2, WVar_eq, toU64_nat (by omega), bind_some, app_ok (by rw [List.length_append]; omega), bind_some, app_ok (by rw [List.length_append, List.length_append]; omega), bind_some, bind_some, w64_succ (by omega), List.append_assoc, List.append_assoc]
theorem Encode_eq {l : List api_Fld} (hf : ∀ f ∈ l, FOk f) (hl : (encL l).length ≤ 1000000) (hn : l.length ≤ 1000000) : wire_Encode l = some (encL l, 0) := by
  have key : ∀ (m i : Nat), i + m = l.length → loop (wire_Encode_lp1 l) (encL (l.take i), (i : Int)) = some (.go (encL l)) := by
    intro m
    induction m with
    | zero =>
      intro i hi
      refine loop_brk ?_
      unfold wire_Encode_lp1
      dsimp only
      rw [bifFd (by omega), List.take_of_length_le (by omega)]
    | succ m ih =>
      intro i hi
      have hlt : i < l.length := by omega
      have ht : l.take (i + 1) = l.take i ++ [l[i]] := by rw [List.take_add_one, List.getElem?_eq_getElem hlt]; rfl
      have hs : encL l = encL (l.take i) ++ encF l[i] ++ encL (l.drop (i + 1)) := by
        rw [← encL_snoc, ← ht]
        unfold encL
        rw [← List.flatMap_append, List.take_append_drop]
      have hlen := congrArg List.length hs
      simp only [List.length_append] at hlen
      rw [loop_next (Encode_step hlt hn (hf _ (List.getElem_mem hlt)) (by omega)), ← encL_snoc, ← ht]
      exact ih (i + 1) (by omega)
  have k0 : loop (wire_Encode_lp1 l) ([], 0) = _ := key l.length 0 (by omega)
  unfold wire_Encode
  rw [k0, flow_go]
/-! ### the document's way to read -/
theorem Wdec_step {b : List UInt8} {at_ : Nat} (hl : b.length ≤ 1000000) (h : at_ < b.length) (l : List api_Fld) (hn : l.length ≤ 1000000) :
    wire_Decode_lp1 b (l, (at_ : Int)) = if (fieldS (b.drop at_)).1 = 0 then some (.next (l ++ [(fieldS (b.drop at_)).2.1], ((at_ + (fieldS (b.drop at_)).2.2 : Nat) : Int))) else some (.out ([], at_, (fieldS (b.drop at_)).1)) := by
  obtain ⟨f, nx, h1, h2⟩ := Wfield_eq hl (Nat.le_of_lt h)
  unfold wire_Decode_lp1
  dsimp only
  rw [bifTd (by omega), h1, bind_some]
  dsimp only
  by_cases h0 : (fieldS (b.drop at_)).1 = 0
  · obtain ⟨e1, e2⟩ := h2 h0
    rw [bifF (by rw [Bool.not_eq_false', decide_eq_true_eq]; exact h0), app_ok (by simp only [List.length_singleton]; omega), bind_some, if_pos h0, e1, e2]
  · rw [bifT (by rw [Bool.not_eq_true', decide_eq_false_iff_not]; exact h0), if_neg h0]; rfl
theorem Same30 {l : List api_Fld} (hl : l.length ≤ 1000000) : ref30_Same l l = some true := by
  have key : ∀ (m i : Nat), i + m = l.length → loop (ref30_Same_lp1 l l) (i : Int) = some (.go ()) := by
    intro m
    induction m with
    | zero =>
      intro i hi
      refine loop_brk ?_
      unfold ref30_Same_lp1
      rw [bifFd (by omega)]
    | succ m ih =>
      intro i hi
      rw [loop_next (s' := ((i + 1 : Nat) : Int)), ih (i + 1) (by omega)]
      unfold ref30_Same_lp1
      rw [bifTd (by omega), idx_nat (by omega), bind_some, bind_some, bifF (by simp), bind_some, bind_some, bind_some, bifF (by simp), bind_some, bind_some, bind_some, bifF (by simp), bind_some, bind_some, bind_some, bifF (by simp), lett_eq, w64_succ (by omega)]
  have h0 : loop (ref30_Same_lp1 l l) 0 = _ := key l.length 0 (by omega)
  unfold ref30_Same
  rw [bifF (by simp), h0]; rfl
end Go.Lg
namespace Go.Lg
attribute [local irreducible] w64 toU64 toU8 shlU shrU shlB shrB
theorem awake30 : law30_awake = some true := by
  have f1 : FOk ⟨1, 0, 150, []⟩ := ⟨by decide, by decide, by decide, fun _ => rfl, fun h => absurd h (by decide)⟩
  have v8 : varL 8 = [8] := varL_lt (by decide)
  have v150 : varL 150 = [150, 1] := by rw [varL_ge (by decide), varL_lt (by decide)]; rfl
  have v300 : varL 300 = [172, 2] := by rw [varL_ge (by decide), varL_lt (by decide)]; rfl
  have e1 : encL [⟨1, 0, 150, []⟩] = [8, 150, 1] := by
    have : encL [⟨1, 0, 150, []⟩] = varL 8 ++ varL 150 := by simp [encL, encF]
    rw [this, v8, v150]; rfl
  have h1 := Encode_eq (l := [⟨1, 0, 150, []⟩]) (fun f hf => by rw [List.mem_singleton.1 hf]; exact f1) (by rw [e1]; decide) (by decide)
  rw [e1] at h1
  have h2 := WGet_eq (b := [128, 0]) (at_ := 0) (by decide) (by decide)
  have e2 : gv ([128, 0].drop 0) = (0, 0, 3) := by decide +kernel
  rw [e2] at h2
  have h2' : wire_GetVar [128, 0] 0 = some (0, 0, 3) := h2
  have s1 := Wdec_step (b := [8, 1, 13]) (at_ := 0) (by decide) (by decide) [] (by decide)
  have s2 := Wdec_step (b := [8, 1, 13]) (at_ := 2) (by decide) (by decide) [⟨1, 0, 1, []⟩] (by decide)
  have q1 : fieldS ([8, 1, 13].drop 0) = (0, ⟨1, 0, 1, []⟩, 2) := by decide +kernel
  have q2 : fieldS ([8, 1, 13].drop 2) = (14, F0, 0) := by decide +kernel
  rw [q1, if_pos rfl] at s1
  rw [q2, if_neg (by decide)] at s2
  have s1' : wire_Decode_lp1 [8, 1, 13] ([], 0) = some (.next ([⟨1, 0, 1, []⟩], ((2 : Nat) : Int))) := s1
  have h3 : wire_Decode [8, 1, 13] = some ([], 2, 14) := by
    unfold wire_Decode
    rw [loop_next s1', loop_out s2]; rfl
  have h4 := WVar_eq 300
  have h4' : wire_Var (300 : UInt64) = some [172, 2] := by rw [h4, ← v300]; rfl
  unfold law30_awake
  rw [h1, bind_some]
  dsimp only
  rw [h2', bind_some]
  dsimp only
  rw [h3, bind_some]
  dsimp only
  rw [h4', bind_some, lett_eq]; rfl
/-! ### the fields with a number -/
structure FewP (l : List api_Fld) : Prop where
  n : l.length ≤ 60
  b : ∀ (i : Nat) (h : i < l.length), (l[i]).B.length ≤ 300
theorem Few_eq (l : List api_Fld) : ∃ q, ref30_Few l = some q ∧ (q = true → FewP l) := by
  unfold ref30_Few
  by_cases h : 60 < (l.length : Int)
  · exact ⟨false, by rw [bifTd h], fun h => by cases h⟩
  rw [bifFd h]
  have key : ∀ (m i : Nat), i + m = l.length → (∀ (j : Nat) (h : j < l.length), j < i → (l[j]).B.length ≤ 300) →
      loop (ref30_Few_lp1 l) (i : Int) = some (.out false) ∨ (loop (ref30_Few_lp1 l) (i : Int) = some (.go ()) ∧ ∀ (j : Nat) (h : j < l.length), (l[j]).B.length ≤ 300) := by
    intro m
    induction m with
    | zero =>
      intro i hi hb
      refine .inr ⟨loop_brk ?_, fun j h => hb j h (by omega)⟩
      unfold ref30_Few_lp1
      rw [bifFd (by omega)]
    | succ m ih =>
      intro i hi hb
      have hlt : i < l.length := by omega
      by_cases hB : 300 < ((l[i]).B.length : Int)
      · refine .inl (loop_out ?_)
        unfold ref30_Few_lp1
        rw [bifTd (by omega), idx_nat hlt, bind_some, bifTd hB]; rfl
      · have hn : ref30_Few_lp1 l (i : Int) = some (.next ((i + 1 : Nat) : Int)) := by
          unfold ref30_Few_lp1
          rw [bifTd (by omega), idx_nat hlt, bind_some, bifFd hB, lett_eq, w64_succ (by omega)]
        rw [loop_next hn]
        refine ih (i + 1) (by omega) fun j hj hji => ?_
        by_cases e : j = i
        · subst e; omega
        · exact hb j hj (by omega)
  rcases key l.length 0 (by omega) (fun j _ h => by omega) with k | ⟨k, hb⟩
  · have k' : loop (ref30_Few_lp1 l) 0 = _ := k
    exact ⟨false, by rw [k']; rfl, fun h => by cases h⟩
  · have k' : loop (ref30_Few_lp1 l) 0 = _ := k
    exact ⟨true, by rw [k']; rfl, fun _ => ⟨by omega, hb⟩⟩
/-! ### numbers one behind the other -/
end Go.Lg
namespace Go.Lg
noncomputable def law30_WireWrites_lp1 : (List UInt8 × Int) → Option (Rnd (List UInt8 × Int) Unit Unit) := fun (a88, i91) =>
 bif decide (i91 < (a88.length : Int)) then
 (idx a88 i91).bind fun e109 =>
 (setI a88 i91 0).bind fun xs119 =>
 lett (w64 (i91 + 1)) fun i123 =>
 some (.next (xs119, i123))
 else
 some (.brk ())
noncomputable def law30_WireWrites (a0 : List api_Fld) : Option Bool :=
 (law30_awake).bind fun r12 =>
 bif (!r12) then
 some false
 else
 (ref30_Few a0).bind fun r24 =>
 bif (!r24) then
 some true
 else
 (wire_Encode a0).bind fun (r36, r37) =>
 (ref30_Encode a0).bind fun (r50, r51) =>
 bif ((!decide (r36 = r50)) || (!decide (r37 = r51))) then
 some false
 else
 bif (!decide (r37 = 0)) then
 some true
 else
 (wire_Decode r36).bind fun (r69, r70, r71) =>
 (flow (loop (law30_WireWrites_lp1) (r36, 0)) fun (_ : Unit) =>
 some ()).bind fun (_ : Unit) =>
 (ref30_Same a0 r69).bind fun r128 =>
 lett (((r128 && (decide (r70 = 0))) && (decide (r71 = 0)))) fun t139 =>
 some t139
end Go.Lg
namespace Go.Lg
attribute [local irreducible] w64 toU64 toU8 shlU shrU shlB shrB
def errF (f : api_Fld) : Int :=
  if f.Num < 1 ∨ 536870911 < f.Num then 1 else if f.Type_ < 0 ∨ 2 < f.Type_ then 14 else if (f.Type_ ≠ 2 ∧ 0 < f.B.length) ∨ (f.Type_ = 2 ∧ f.V ≠ 0) then 3 else 0
theorem errF_ok (f : api_Fld) : errF f = 0 ↔ FOk f := by
  unfold errF
  by_cases h1 : f.Num < 1 ∨ 536870911 < f.Num
  · rw [if_pos h1]; exact ⟨fun h => absurd h (by decide), fun h => by have := h.n1; have := h.n2; omega⟩
  rw [if_neg h1]
  by_cases h2 : f.Type_ < 0 ∨ 2 < f.Type_
  · rw [if_pos h2]; exact ⟨fun h => absurd h (by decide), fun h => by have := h.t; omega⟩
  rw [if_neg h2]
  by_cases h3 : (f.Type_ ≠ 2 ∧ 0 < f.B.length) ∨ (f.Type_ = 2 ∧ f.V ≠ 0)
  · rw [if_pos h3]
    refine ⟨fun h => absurd h (by decide), fun h => ?_⟩
    rcases h3 with ⟨a, b⟩ | ⟨a, b⟩
    · rw [h.b a] at b; simp at b
    · exact absurd (h.v a) b
  · rw [if_neg h3]
    refine ⟨fun _ => ⟨by omega, by omega, by omega, fun h => ?_, fun h => ?_⟩, fun _ => rfl⟩
    · exact List.eq_nil_of_length_eq_zero (Nat.eq_zero_of_not_pos fun q => h3 (.inl ⟨h, q⟩))
    · exact Decidable.byContradiction fun q => h3 (.inr ⟨h, q⟩)
theorem check_eq30 (f : api_Fld) : wire_check f = some (errF f) := by
  unfold wire_check errF
  rw [lett_eq]
  by_cases h1 : f.Num < 1 ∨ 536870911 < f.Num
  · rw [if_pos h1, bifT (by simpa using h1)]
  rw [if_neg h1, bifF (by simpa using h1), lett_eq]
  by_cases h2 : f.Type_ < 0 ∨ 2 < f.Type_
  · rw [if_pos h2, bifT (by simpa using h2)]
  rw [if_neg h2, bifF (by simpa using h2), lett_eq]
  by_cases h3 : f.Type_ ≠ 2 ∧ 0 < f.B.length
  · have e : ((!decide (f.Type_ = 2)) && decide (0 < (f.B.length : Int))) = true := by
      rw [decide_eq_false h3.1, decide_eq_true (by omega)]; rfl
    rw [if_pos (.inl h3), e, bifT rfl, bifT rfl]
  · have e : ((!decide (f.Type_ = 2)) && decide (0 < (f.B.length : Int))) = false := by
      by_cases q : f.Type_ = 2
      · rw [decide_eq_true q]; rfl
      · rw [decide_eq_false (p := 0 < (f.B.length : Int)) (fun z => h3 ⟨q, by omega⟩), Bool.and_false]
    rw [e, bifF rfl, lett_eq]
    by_cases h4 : f.Type_ = 2 ∧ f.V ≠ 0
    · rw [if_pos (.inr h4), bifT (by rw [decide_eq_true h4.1, decide_eq_false h4.2]; rfl)]
    · rw [if_neg (fun q => q.elim h3 h4), bifF]
      by_cases q : f.Type_ = 2
      · have : f.V = 0 := Decidable.byContradiction fun z => h4 ⟨q, z⟩
        rw [decide_eq_true this]; simp
      · rw [decide_eq_false q]; rfl
theorem fix_eq (v : UInt64) : ref30_fix v = some (eightL v.toNat) := by
  have hv := UInt64.toNat_lt v
  unfold ref30_fix
  have L := loop_for (f := ref30_fix_lp1) (fun i => (UInt64.ofNat (v.toNat / 256 ^ i), (eightL v.toNat).take i, (i : Int))) 8 (b := eightL v.toNat) (fun i hi => by
    have hlt : i < (eightL v.toNat).length := by rw [eight_len]; exact hi
    have hd : v.toNat / 256 ^ i < 18446744073709551616 := Nat.lt_of_le_of_lt (Nat.div_le_self _ _) hv
    have e1 : (UInt64.ofNat (v.toNat / 256 ^ i) % 256).toUInt8 = (eightL v.toNat)[i] := by
      rw [eight_get hi]
      apply UInt8.toNat_inj.1
      rw [UInt64.toNat_toUInt8, UInt64.toNat_mod, UInt64.toNat_ofNat', UInt8.toNat_ofNat', show (256 : UInt64).toNat = 256 from rfl]
      omega
    have e2 : UInt64.ofNat (v.toNat / 256 ^ i) / 256 = UInt64.ofNat (v.toNat / 256 ^ (i + 1)) := by
      apply UInt64.toNat_inj.1
      rw [UInt64.toNat_div, UInt64.toNat_ofNat', UInt64.toNat_ofNat', show (256 : UInt64).toNat = 256 from rfl, Nat.mod_eq_of_lt hd, Nat.pow_succ, ← Nat.div_div_eq_div_mul]
      generalize v.toNat / 256 ^ i = x at *
      omega
    unfold ref30_fix_lp1
    dsimp only
    rw [bifTd (by omega), app_ok (by simp; omega), bind_some, lett_eq, lett_eq, w64_succ (by omega), e1, e2, take_snoc8 hlt]) (by
    unfold ref30_fix_lp1
    dsimp only
    rw [bifFd (by omega), List.take_of_length_le (by rw [eight_len]; omega)])
  have e0 : UInt64.ofNat (v.toNat / 256 ^ 0) = v := by
    apply UInt64.toNat_inj.1
    rw [UInt64.toNat_ofNat', Nat.pow_zero, Nat.div_one]; omega
  have L' : loop ref30_fix_lp1 (UInt64.ofNat (v.toNat / 256 ^ 0), [], 0) = some (.go (eightL v.toNat)) := L
  rw [e0] at L'
  rw [L', flow_go]
theorem REncode_step {l : List api_Fld} {i : Nat} (h : i < l.length) (hn : l.length ≤ 1000000) (hf : FOk l[i]) {out : List UInt8} (hl : out.length + (encF l[i]).length ≤ 1000000) :
    ref30_Encode_lp1 l (out, (i : Int)) = some (.next (out ++ encF l[i], ((i + 1 : Nat) : Int))) := by
  have t := hf.t; have a := hf.n1; have b := hf.n2
  have ht : (((toU64 l[i].Num) * 8) + (toU64 l[i].Type_)).toNat = (8 * l[i].Num + l[i].Type_).toNat := by
    rw [UInt64.toNat_add, UInt64.toNat_mul, toU64_val (by omega) (by omega), toU64_val (by omega) (by omega), n8]; omega
  have hE : encF l[i] = varL (8 * l[i].Num + l[i].Type_).toNat ++ (if l[i].Type_ = 0 then varL l[i].V.toNat else if l[i].Type_ = 1 then eightL l[i].V.toNat else varL l[i].B.length ++ l[i].B) := rfl
  have e3 : ((decide (l[i].Type_ = 2) && !decide (l[i].V = 0)) || (decide (l[i].Type_ < 2) && decide (0 < (l[i].B.length : Int)))) = false := by
    by_cases q : l[i].Type_ = 2
    · rw [decide_eq_true (hf.v q), decide_eq_false (p := l[i].Type_ < 2) (by omega)]; simp
    · rw [decide_eq_false q, hf.b q]; simp
  unfold ref30_Encode_lp1
  dsimp only
  rw [bifTd (by omega), idx_nat h, bind_some, bifF (by
    rw [decide_eq_false (p := l[i].Num < 1) (by omega), decide_eq_false (p := 536870911 < l[i].Num) (by omega)]; rfl), bifF (by
    rw [decide_eq_false (p := l[i].Type_ < 0) (by omega), decide_eq_false (p := 2 < l[i].Type_) (by omega)]; rfl), bifF e3, RVar_eq, ht, bind_some]
  rw [hE] at hl ⊢
  rw [List.length_append] at hl
  rw [app_ok (by omega), bind_some]
  by_cases t0 : l[i].Type_ = 0
  · rw [if_pos t0] at hl ⊢
    rw [bifTd t0, RVar_eq, bind_some, app_ok (by rw [List.length_append]; omega), bind_some, bind_some, bifFd (by omega), bind_some, bifFd (by omega), flow_go, lett_eq, w64_succ (by omega), List.append_assoc]
  · rw [if_neg t0] at hl ⊢
    rw [bifFd t0, bind_some]
    by_cases t1 : l[i].Type_ = 1
    · rw [if_pos t1] at hl ⊢
      rw [bifTd t1, fix_eq, bind_some, app_ok (by rw [List.length_append]; omega), bind_some, bind_some, bifFd (by omega), flow_go, lett_eq, w64_succ (by omega), List.append_assoc]
    · have t2 : l[i].Type_ = 2 := by omega
      rw [if_neg t1] at hl ⊢
      rw [List.length_append] at hl
      rw [bifFd t1, bind_some, bifTd t2, RVar_eq, toU64_nat (by omega), bind_some, app_ok (by rw [List.length_append]; omega), bind_some, app_ok (by rw [List.length_append, List.length_append]; omega), bind_some, flow_go, lett_eq, w64_succ (by omega), List.append_assoc, List.append_assoc]
theorem encF_len {f : api_Fld} (h : FOk f) (hb : f.B.length ≤ 300) : (encF f).length ≤ 330 := by
  have a := h.n1; have b := h.n2; have t := h.t
  unfold encF
  rw [List.length_append]
  have h1 := varL_len10 (v := (8 * f.Num + f.Type_).toNat) (by omega)
  split
  · have := varL_len10 (UInt64.toNat_lt f.V); omega
  split
  · rw [eight_len]; omega
  · rw [List.length_append]
    have := varL_len10 (v := f.B.length) (by omega)
    omega
theorem encL_len (l : List api_Fld) (h : ∀ f ∈ l, FOk f ∧ f.B.length ≤ 300) : (encL l).length ≤ 330 * l.length := by
  induction l with
  | nil => simp [encL]
  | cons f l ih =>
    have h1 := encF_len (h f (by simp)).1 (h f (by simp)).2
    have h2 := ih fun g hg => h g (by simp [hg])
    have e : encL (f :: l) = encF f ++ encL l := by simp [encL]
    rw [e, List.length_append, List.length_cons]; omega
/-- both write alike -/
theorem write_both {l : List api_Fld} (hf : FewP l) : (∃ e, e ≠ 0 ∧ wire_Encode l = some ([], e) ∧ ref30_Encode l = some ([], e)) ∨ ((∀ f ∈ l, FOk f) ∧ wire_Encode l = some (encL l, 0) ∧ ref30_Encode l = some (encL l, 0)) := by
  have hn := hf.n
  have key : ∀ (m i : Nat), i + m = l.length → (∀ f ∈ l.take i, FOk f ∧ f.B.length ≤ 300) →
      (∃ e, e ≠ 0 ∧ loop (wire_Encode_lp1 l) (encL (l.take i), (i : Int)) = some (.out ([], e)) ∧ loop (ref30_Encode_lp1 l) (encL (l.take i), (i : Int)) = some (.out ([], e))) ∨
      ((∀ f ∈ l, FOk f ∧ f.B.length ≤ 300) ∧ loop (wire_Encode_lp1 l) (encL (l.take i), (i : Int)) = some (.go (encL l)) ∧ loop (ref30_Encode_lp1 l) (encL (l.take i), (i : Int)) = some (.go (encL l))) := by
    intro m
    induction m with
    | zero =>
      intro i hi hp
      rw [List.take_of_length_le (by omega)] at hp ⊢
      refine .inr ⟨hp, loop_brk ?_, loop_brk ?_⟩
      · unfold wire_Encode_lp1
        dsimp only
        rw [bifFd (by omega)]
      · unfold ref30_Encode_lp1
        dsimp only
        rw [bifFd (by omega)]
    | succ m ih =>
      intro i hi hp
      have hlt : i < l.length := by omega
      have ht : l.take (i + 1) = l.take i ++ [l[i]] := by rw [List.take_add_one, List.getElem?_eq_getElem hlt]; rfl
      by_cases he : errF l[i] = 0
      · have ok := (errF_ok _).1 he
        have hp' : ∀ f ∈ l.take (i + 1), FOk f ∧ f.B.length ≤ 300 := by
          intro f hf'
          rw [ht] at hf'
          rcases List.mem_append.1 hf' with hf' | hf'
          · exact hp f hf'
          · rw [List.mem_singleton.1 hf']; exact ⟨ok, hf.b i hlt⟩
        have hl := encL_len _ hp'
        rw [ht, encL_snoc, List.length_append, List.length_append, List.length_take] at hl
        have hl' : (encL (l.take i)).length + (encF l[i]).length ≤ 1000000 := by
          have : ([l[i]] : List api_Fld).length = 1 := rfl
          omega
        rw [loop_next (Encode_step hlt (by omega) ok hl'), loop_next (REncode_step hlt (by omega) ok hl'), ← encL_snoc, ← ht]
        exact ih (i + 1) (by omega) hp'
      · refine .inl ⟨errF l[i], he, loop_out ?_, loop_out ?_⟩
        · unfold wire_Encode_lp1
          dsimp only
          rw [bifTd (by omega), idx_nat hlt, bind_some, check_eq30, bind_some, bifT (by simp [he])]; rfl
        · have hd : errF l[i] = if l[i].Num < 1 ∨ 536870911 < l[i].Num then 1 else if l[i].Type_ < 0 ∨ 2 < l[i].Type_ then 14 else if (l[i].Type_ ≠ 2 ∧ 0 < l[i].B.length) ∨ (l[i].Type_ = 2 ∧ l[i].V ≠ 0) then 3 else 0 := rfl
          unfold ref30_Encode_lp1
          dsimp only
          rw [bifTd (by omega), idx_nat hlt, bind_some]
          by_cases h1 : l[i].Num < 1 ∨ 536870911 < l[i].Num
          · rw [if_pos h1] at hd
            rw [bifT (by simpa using h1), hd]; rfl
          rw [if_neg h1] at hd
          rw [bifF (by simpa using h1)]
          by_cases h2 : l[i].Type_ < 0 ∨ 2 < l[i].Type_
          · rw [if_pos h2] at hd
            rw [bifT (by simpa using h2), hd]; rfl
          rw [if_neg h2] at hd
          rw [bifF (by simpa using h2)]
          by_cases h3 : (l[i].Type_ ≠ 2 ∧ 0 < l[i].B.length) ∨ (l[i].Type_ = 2 ∧ l[i].V ≠ 0)
          · rw [if_pos h3] at hd
            rw [bifT (by
              rcases h3 with ⟨a, b⟩ | ⟨a, b⟩
              · rw [decide_eq_true (p := l[i].Type_ < 2) (by omega), decide_eq_true (p := 0 < (l[i].B.length : Int)) (by omega)]; simp
              · rw [decide_eq_true a, decide_eq_false b]; rfl), hd]; rfl
          · rw [if_neg h3] at hd; exact absurd hd he
  rcases key l.length 0 (by omega) (by simp) with ⟨e, he, h1, h2⟩ | ⟨h0, h1, h2⟩
  · have h1' : loop (wire_Encode_lp1 l) ([], 0) = _ := h1
    have h2' : loop (ref30_Encode_lp1 l) ([], 0) = _ := h2
    refine .inl ⟨e, he, ?_, ?_⟩
    · unfold wire_Encode; rw [h1', flow_out]
    · unfold ref30_Encode; rw [h2', flow_out]
  · have h1' : loop (wire_Encode_lp1 l) ([], 0) = _ := h1
    have h2' : loop (ref30_Encode_lp1 l) ([], 0) = _ := h2
    refine .inr ⟨fun f hf => (h0 f hf).1, ?_, ?_⟩
    · unfold wire_Encode; rw [h1', flow_go]
    · unfold ref30_Encode; rw [h2', flow_go]
/-- bytes that were written, read again -/
theorem le8_eight {v : Nat} (h : v < 18446744073709551616) : le8 (eightL v) = v := by
  have e : eightL v = [UInt8.ofNat (v / 256 ^ 0), UInt8.ofNat (v / 256 ^ 1), UInt8.ofNat (v / 256 ^ 2), UInt8.ofNat (v / 256 ^ 3), UInt8.ofNat (v / 256 ^ 4), UInt8.ofNat (v / 256 ^ 5), UInt8.ofNat (v / 256 ^ 6), UInt8.ofNat (v / 256 ^ 7)] := rfl
  rw [e]
  simp only [le8, UInt8.toNat_ofNat']
  omega
theorem field_back {f : api_Fld} (h : FOk f) (hb : f.B.length ≤ 300) (r : List UInt8) : fieldS (encF f ++ r) = (0, f, (encF f).length) := by
  have a := h.n1; have b := h.n2; have t := h.t
  have ev : ∀ v : UInt64, UInt64.ofNat v.toNat = v := fun v => UInt64.toNat_inj.1 (by rw [UInt64.toNat_ofNat']; have := UInt64.toNat_lt v; omega)
  obtain ⟨tag, htag⟩ : ∃ tag, tag = (8 * f.Num + f.Type_).toNat := ⟨_, rfl⟩
  have hE : encF f = varL tag ++ (if f.Type_ = 0 then varL f.V.toNat else if f.Type_ = 1 then eightL f.V.toNat else varL f.B.length ++ f.B) := by rw [htag]; rfl
  have hm : tag % 8 = f.Type_.toNat := by omega
  have hd : ((tag / 8 : Nat) : Int) = f.Num := by omega
  have hg : ∀ q, gv (varL tag ++ q) = (UInt64.ofNat tag, ((varL tag).length : Int), 0) := fun q => gv_var (by omega) q
  have et : (UInt64.ofNat tag).toNat = tag := by rw [UInt64.toNat_ofNat']; omega
  have hn : (((varL tag).length : Nat) : Int).toNat = (varL tag).length := by omega
  rw [hE, List.append_assoc]
  generalize hq : (if f.Type_ = 0 then varL f.V.toNat else if f.Type_ = 1 then eightL f.V.toNat else varL f.B.length ++ f.B) = Q
  have hdr : (varL tag ++ (Q ++ r)).drop (varL tag).length = Q ++ r := List.drop_left
  unfold fieldS
  rw [hg]
  dsimp only
  rw [if_neg (by decide), et, hm, if_neg (by omega), if_neg (by omega), hn, hdr]
  by_cases t1 : f.Type_ = 1
  · rw [if_neg (by omega), if_pos t1] at hq
    have l8 : Q.length = 8 := by rw [← hq]; exact eight_len _
    have tk : (Q ++ r).take 8 = Q := by rw [← l8]; exact List.take_left
    rw [if_pos (by omega), if_neg (by rw [List.length_append, List.length_append]; omega), tk, ← hq, le8_eight (UInt64.toNat_lt _), ev, List.length_append, eight_len, hd]
    have := h.b (by omega)
    obtain ⟨fn, ft, fv, fb⟩ := f
    dsimp only at *
    rw [this, t1]
  rw [if_neg (by omega)]
  by_cases t0 : f.Type_ = 0
  · rw [if_pos t0] at hq
    rw [← hq, gv_var (UInt64.toNat_lt _)]
    dsimp only
    rw [if_neg (by decide), if_pos (by omega), ev, hd, List.length_append]
    have := h.b (by omega)
    obtain ⟨fn, ft, fv, fb⟩ := f
    dsimp only at *
    rw [this, t0]; rfl
  · have t2 : f.Type_ = 2 := by omega
    rw [if_neg t0, if_neg t1] at hq
    have hg2 : gv (Q ++ r) = (UInt64.ofNat f.B.length, ((varL f.B.length).length : Int), 0) := by rw [← hq, List.append_assoc]; exact gv_var (by omega) _
    have el : (UInt64.ofNat f.B.length).toNat = f.B.length := by rw [UInt64.toNat_ofNat']; omega
    have hn2 : (((varL f.B.length).length : Nat) : Int).toNat = (varL f.B.length).length := by omega
    have tk : ((varL tag ++ (Q ++ r)).drop ((varL tag).length + (varL f.B.length).length)).take f.B.length = f.B := by
      rw [← List.drop_drop, hdr, ← hq, List.append_assoc, List.drop_left, List.take_left]
    have lQ : Q.length = (varL f.B.length).length + f.B.length := by rw [← hq, List.length_append]
    rw [hg2]
    dsimp only
    rw [if_neg (by decide), if_neg (by omega), el, hn2, if_neg (by rw [List.length_append, List.length_append]; omega), tk, hd, List.length_append, lQ, Nat.add_assoc]
    have := h.v t2
    obtain ⟨fn, ft, fv, fb⟩ := f
    dsimp only at *
    rw [this, t2]
theorem Decode_back {l : List api_Fld} (hf : ∀ f ∈ l, FOk f) (hw : FewP l) : wire_Decode (encL l) = some (l, 0, 0) := by
  have hn := hw.n
  have hb : ∀ f ∈ l, FOk f ∧ f.B.length ≤ 300 := by
    intro f hm
    obtain ⟨i, hi, rfl⟩ := List.getElem_of_mem hm
    exact ⟨hf _ hm, hw.b i hi⟩
  have hl := encL_len l hb
  have key : ∀ (m i : Nat), i + m = l.length → loop (wire_Decode_lp1 (encL l)) (l.take i, (((encL (l.take i)).length : Nat) : Int)) = some (.go l) := by
    intro m
    induction m with
    | zero =>
      intro i hi
      rw [List.take_of_length_le (by omega)]
      refine loop_brk ?_
      unfold wire_Decode_lp1
      dsimp only
      rw [bifFd (by omega)]
    | succ m ih =>
      intro i hi
      have hlt : i < l.length := by omega
      have ht : l.take (i + 1) = l.take i ++ [l[i]] := by rw [List.take_add_one, List.getElem?_eq_getElem hlt]; rfl
      have hs : encL l = encL (l.take i) ++ (encF l[i] ++ encL (l.drop (i + 1))) := by
        rw [← List.append_assoc, ← encL_snoc, ← ht]
        unfold encL
        rw [← List.flatMap_append, List.take_append_drop]
      have okf := hb _ (List.getElem_mem hlt)
      have hdr : (encL l).drop (encL (l.take i)).length = encF l[i] ++ encL (l.drop (i + 1)) := by
        conv => lhs; rw [hs]
        exact List.drop_left
      have hpos : 0 < (encF l[i]).length := by
        unfold encF; rw [List.length_append]
        have := varL_pos (8 * l[i].Num + l[i].Type_).toNat
        omega
      have hlen := congrArg List.length hs
      simp only [List.length_append] at hlen
      have st := Wdec_step (b := encL l) (at_ := (encL (l.take i)).length) (by omega) (by omega) (l.take i) (by rw [List.length_take]; omega)
      rw [hdr, field_back okf.1 okf.2] at st
      rw [if_pos rfl] at st
      dsimp only at st
      rw [loop_next st, ← ht]
      have e2 : (encL (l.take i)).length + (encF l[i]).length = (encL (l.take (i + 1))).length := by rw [ht, encL_snoc, List.length_append]
      rw [e2]
      exact ih (i + 1) (by omega)
  have k0 : loop (wire_Decode_lp1 (encL l)) ([], 0) = _ := key l.length 0 (by omega)
  unfold wire_Decode
  rw [k0, flow_go]
theorem zero_loop (b : List UInt8) (hl : b.length ≤ 1000000) : loop law30_WireWrites_lp1 (b, 0) = some (.go ()) := by
  have L := loop_up (f := law30_WireWrites_lp1) (fun i st => ∃ m, m.length = b.length ∧ st = (m, (i : Int))) b.length (fun fl => fl = .go ()) ?_ ?_ b.length 0 (b, 0) (by omega) ⟨b, rfl, rfl⟩
  · obtain ⟨fl, h1, rfl⟩ := L
    exact h1
  · rintro i st hi ⟨m, hm, rfl⟩
    left
    unfold law30_WireWrites_lp1
    dsimp only
    rw [bifTd (by omega), idx_nat (by omega), bind_some, setI_nat (by omega), bind_some, lett_eq, w64_succ (by omega)]
    exact ⟨_, rfl, _, by simp [hm], rfl⟩
  · rintro st ⟨m, hm, rfl⟩
    left
    unfold law30_WireWrites_lp1
    dsimp only
    rw [bifFd (by omega)]
    exact ⟨_, rfl, rfl⟩
theorem wireWrites (l : List api_Fld) : law30_WireWrites l = some true := by
  unfold law30_WireWrites
  rw [awake30, bind_some, bifF (by rfl)]
  obtain ⟨q, f1, f2⟩ := Few_eq l
  rw [f1, bind_some]
  cases q
  · rw [bifT (by rfl)]
  have fw := f2 rfl
  rw [bifF (by rfl)]
  rcases write_both fw with ⟨e, he, h1, h2⟩ | ⟨h0, h1, h2⟩
  · rw [h1, bind_some, h2]
    dsimp only
    rw [bind_some]
    dsimp only
    rw [bifF (by simp), bifT (by simp [he])]
  · have hn := fw.n
    have hl := encL_len l (fun f hf => by
      obtain ⟨i, hi, rfl⟩ := List.getElem_of_mem hf
      exact ⟨h0 _ hf, fw.b i hi⟩)
    rw [h1, bind_some, h2]
    dsimp only
    rw [bind_some]
    dsimp only
    rw [bifF (by simp), bifF (by rfl), Decode_back h0 fw, bind_some]
    dsimp only
    rw [zero_loop _ (by omega), flow_go, bind_some, Same30 (by omega), bind_some, lett_eq]; rfl
end Go.Lg
