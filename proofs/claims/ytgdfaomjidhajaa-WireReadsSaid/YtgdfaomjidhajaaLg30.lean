/- Lemmas about the given model and about plain data, which the rows stand on: no statement of the program by itself. -/
import Derived.Test.YtgdfaomjidhajaaLgWireP
import Derived.Test.YtgdfaomjidhajaaLg01b
set_option linter.unusedVariables false
namespace Go.Lg
attribute [local irreducible] w64 toU64 toU8 shlU shrU shlB shrB

/-! ### a variable number's bytes -/
def varL (v : Nat) : List UInt8 := if v < 128 then [UInt8.ofNat v] else UInt8.ofNat (128 + v % 128) :: varL (v / 128)
termination_by v
decreasing_by omega
theorem varL_lt {v : Nat} (h : v < 128) : varL v = [UInt8.ofNat v] := by rw [varL, if_pos h]
theorem varL_ge {v : Nat} (h : ¬ v < 128) : varL v = UInt8.ofNat (128 + v % 128) :: varL (v / 128) := by rw [varL, if_neg h]
theorem varL_pos (v : Nat) : 0 < (varL v).length := by
  by_cases h : v < 128
  · rw [varL_lt h]; simp
  · rw [varL_ge h]; simp
theorem varL_len : ∀ (k v : Nat), v < 128 ^ (k + 1) → (varL v).length ≤ k + 1
  | 0, v, h => by rw [varL_lt (by omega)]; simp
  | k + 1, v, h => by
    by_cases h0 : v < 128
    · rw [varL_lt h0]; simp
    · rw [varL_ge h0]
      have := varL_len k (v / 128) (by rw [Nat.pow_succ] at h; omega)
      simp only [List.length_cons]; omega
theorem p128_10 : (128 : Nat) ^ (9 + 1) = 1180591620717411303424 := by decide
theorem varL_len10 {v : Nat} (h : v < 18446744073709551616) : (varL v).length ≤ 10 := varL_len 9 v (by rw [p128_10]; omega)
theorem or128 (x : UInt8) : x ||| 128 = UInt8.ofNat (128 + x.toNat % 128) := by
  apply UInt8.toNat_inj.1
  have h : ∀ n, n < 256 → n ||| 128 = 128 + n % 128 := by decide +kernel
  rw [UInt8.toNat_or, show (128 : UInt8).toNat = 128 from rfl, h _ (u8_lt' x), UInt8.toNat_ofNat']; omega
theorem u8_of {v : UInt64} (h : v.toNat < 128) : v.toUInt8 = UInt8.ofNat v.toNat := by
  apply UInt8.toNat_inj.1
  rw [UInt64.toNat_toUInt8, UInt8.toNat_ofNat']
theorem n127 : (127 : UInt64).toNat = 127 := rfl
theorem WVar_lp : ∀ (n : Nat) (v : UInt64) (out : List UInt8), v.toNat ≤ n → out.length + (varL v.toNat).length ≤ 17179869184 →
    ∃ v' out', loop wire_Var_lp1 (v, out) = some (.go (v', out')) ∧ v'.toNat < 128 ∧ out' ++ [UInt8.ofNat v'.toNat] = out ++ varL v.toNat := by
  intro n
  induction n using Nat.strongRecOn with
  | _ n ih =>
    intro v out hn hl
    by_cases h : v.toNat < 128
    · refine ⟨v, out, loop_brk ?_, h, by rw [varL_lt h]⟩
      unfold wire_Var_lp1
      dsimp only
      rw [bifFd (by rw [UInt64.lt_iff_toNat_lt, n127]; omega)]
    · have hs : (shrU v ((7 : UInt64).toNat)).toNat = v.toNat / 128 := shrU_nat v (n := 7) (by omega)
      have hv := varL_ge h
      have hl2 : (varL v.toNat).length = (varL (v.toNat / 128)).length + 1 := by rw [hv]; simp
      have hx : v.toUInt8 ||| 128 = UInt8.ofNat (128 + v.toNat % 128) := by
        rw [or128, UInt64.toNat_toUInt8, Nat.mod_mod_of_dvd _ (by decide : 128 ∣ 2 ^ 8)]
      obtain ⟨v', out', h1, h2, h3⟩ := ih (v.toNat / 128) (by omega) (shrU v ((7 : UInt64).toNat)) (out ++ [UInt8.ofNat (128 + v.toNat % 128)]) (by omega) (by rw [hs]; simp only [List.length_append, List.length_singleton]; omega)
      refine ⟨v', out', ?_, h2, ?_⟩
      · rw [← h1]
        refine loop_next ?_
        unfold wire_Var_lp1
        dsimp only
        rw [bifTd (by rw [UInt64.lt_iff_toNat_lt, n127]; omega), hx, app_ok (by have := varL_pos (v.toNat / 128); simp only [List.length_singleton]; omega), bind_some, lett_eq]
      · rw [h3, hs, hv]; simp
theorem WVar_eq (v : UInt64) : wire_Var v = some (varL v.toNat) := by
  have hl := varL_len10 (UInt64.toNat_lt v)
  obtain ⟨v', out', h1, h2, h3⟩ := WVar_lp v.toNat v [] (Nat.le_refl _) (by simp only [List.length_nil]; omega)
  unfold wire_Var
  have hl2 := congrArg List.length h3
  simp only [List.length_append, List.length_singleton, List.length_nil] at hl2
  rw [h1, flow_go]
  dsimp only
  rw [bind_some]
  dsimp only
  rw [u8_of h2, app_ok (by simp only [List.length_singleton]; omega), bind_some, h3]; rfl
theorem RVar_N : ∀ (k : Nat) (v : UInt64) (x : List UInt8), ref30_VarN k v = some x → x = varL v.toNat
  | 0, v, x, h => by cases h
  | k + 1, v, x, h => by
    have h : ref30_VarB (ref30_VarN k) v = some x := h
    unfold ref30_VarB at h
    by_cases hv : v.toNat < 128
    · rw [bifTd (by rw [UInt64.lt_iff_toNat_lt]; exact hv)] at h
      cases h
      rw [varL_lt hv, u8_of hv]
    · rw [bifFd (by rw [UInt64.lt_iff_toNat_lt]; exact hv)] at h
      cases hr : ref30_VarN k (v / 128) with
      | none => rw [hr] at h; cases h
      | some r =>
        rw [hr, bind_some] at h
        have e := RVar_N k _ _ hr
        have hd : (v / 128).toNat = v.toNat / 128 := by rw [UInt64.toNat_div]; rfl
        rw [hd] at e
        have hm : ((128 : UInt64) + v % 128).toUInt8 = UInt8.ofNat (128 + v.toNat % 128) := by
          apply UInt8.toNat_inj.1
          rw [UInt64.toNat_toUInt8, UInt8.toNat_ofNat', UInt64.toNat_add, UInt64.toNat_mod, show (128 : UInt64).toNat = 128 from rfl]; omega
        have hl := varL_len10 (v := v.toNat / 128) (by have := UInt64.toNat_lt v; omega)
        rw [hm, app_ok (by rw [e]; simp only [List.length_singleton]; omega), bind_some] at h
        cases h
        rw [varL_ge hv, e]; rfl
theorem RVar_some : ∀ (k : Nat) (v : UInt64), v.toNat < 128 ^ (k + 1) → ref30_VarN (k + 1) v = some (varL v.toNat)
  | 0, v, h => by
    show ref30_VarB (ref30_VarN 0) v = _
    unfold ref30_VarB
    rw [bifTd (by rw [UInt64.lt_iff_toNat_lt]; exact (by omega : v.toNat < 128)), u8_of (by omega), varL_lt (by omega)]
  | k + 1, v, h => by
    show ref30_VarB (ref30_VarN (k + 1)) v = _
    unfold ref30_VarB
    by_cases hv : v.toNat < 128
    · rw [bifTd (by rw [UInt64.lt_iff_toNat_lt]; exact hv), u8_of hv, varL_lt hv]
    · have hd : (v / 128).toNat = v.toNat / 128 := by rw [UInt64.toNat_div]; rfl
      have hm : ((128 : UInt64) + v % 128).toUInt8 = UInt8.ofNat (128 + v.toNat % 128) := by
        apply UInt8.toNat_inj.1
        rw [UInt64.toNat_toUInt8, UInt8.toNat_ofNat', UInt64.toNat_add, UInt64.toNat_mod, show (128 : UInt64).toNat = 128 from rfl]; omega
      have hl := varL_len10 (v := v.toNat / 128) (by have := UInt64.toNat_lt v; omega)
      rw [bifFd (by rw [UInt64.lt_iff_toNat_lt]; exact hv), RVar_some k (v / 128) (by rw [hd]; rw [Nat.pow_succ] at h; omega), bind_some, hd, hm, app_ok (by simp only [List.length_singleton]; omega), bind_some, varL_ge hv]; rfl
theorem RVar_eq (v : UInt64) : ref30_Var v = some (varL v.toNat) :=
  fuel_of (fun k x h => RVar_N k v x h) (RVar_some 9 v (by have := UInt64.toNat_lt v; rw [p128_10]; omega))

/-! ### the number that stands at the beginning of bytes -/
def leV : List UInt8 → Nat
  | [] => 0
  | x :: l => x.toNat % 128 + 128 * leV l
/-- how many of the first bytes go on -/
def cnt : List UInt8 → Nat
  | [] => 0
  | x :: l => if 128 ≤ x.toNat then 1 + cnt l else 0
theorem cnt_le : ∀ l : List UInt8, cnt l ≤ l.length
  | [] => by simp [cnt]
  | x :: l => by have := cnt_le l; rw [cnt]; split <;> simp only [List.length_cons] <;> omega
theorem cnt_lt : ∀ (l : List UInt8) (j : Nat) (h : j < l.length), j < cnt l → 128 ≤ (l[j]).toNat
  | [], j, h, _ => by simp at h
  | x :: l, j, h, hc => by
    rw [cnt] at hc
    split at hc
    · cases j with
      | zero => assumption
      | succ j => exact cnt_lt l j (by simpa using h) (by omega)
    · omega
theorem cnt_at : ∀ (l : List UInt8) (h : cnt l < l.length), (l[cnt l]).toNat < 128
  | [], h => by simp at h
  | x :: l, h => by
    by_cases hx : 128 ≤ x.toNat
    · have e : cnt (x :: l) = cnt l + 1 := by rw [cnt, if_pos hx]; omega
      simp only [e, List.getElem_cons_succ]
      exact cnt_at l (by rw [e] at h; simpa using h)
    · have e : cnt (x :: l) = 0 := by rw [cnt, if_neg hx]
      simp only [e, List.getElem_cons_zero]; omega
theorem leV_snoc : ∀ (l : List UInt8) (x : UInt8), leV (l ++ [x]) = leV l + 128 ^ l.length * (x.toNat % 128)
  | [], x => by simp [leV]
  | y :: l, x => by
    rw [List.cons_append, leV, leV, leV_snoc l x, List.length_cons, Nat.pow_succ, Nat.mul_add, Nat.mul_comm (128 ^ l.length) 128, Nat.mul_assoc]; omega
theorem leV_lt : ∀ l : List UInt8, leV l < 128 ^ l.length
  | [] => by simp [leV]
  | x :: l => by have := leV_lt l; rw [leV, List.length_cons, Nat.pow_succ]; omega
def gv (l : List UInt8) : UInt64 × Int × Int :=
  if 10 ≤ cnt l then (0, 0, 3)
  else if cnt l = l.length then (0, 0, 2)
  else if (cnt l = 9 ∧ 1 < (l.getD (cnt l) 0).toNat) ∨ (0 < cnt l ∧ l.getD (cnt l) 0 = 0) then (0, 0, 3)
  else (UInt64.ofNat (leV (l.take (cnt l + 1))), ((cnt l + 1 : Nat) : Int), 0)
end Go.Lg
