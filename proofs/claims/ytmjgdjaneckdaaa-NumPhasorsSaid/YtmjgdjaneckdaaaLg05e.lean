/- Lemmas about the given model and about plain data, which the rows stand on: no statement of the program by itself. -/
import Derived.Test.YtmjgdjaneckdaaaLg05d
set_option linter.unusedVariables false
namespace Go.Lg
open Ieee
attribute [local irreducible] w64 toU64 toU8 shlU shrU shlB shrB

theorem mkStd {M mag d k : Nat} (h : M * 2 ^ d = 8 * mag ∨ (RepU 2 M (8 * mag) d ∧ 18014398509481984 ≤ M)) : Std M (mag * 2 ^ (k + 3)) (d + k) := by
  have e : mag * 2 ^ (k + 3) = 8 * mag * 2 ^ k := by rw [Nat.pow_add]; grind
  rw [e]
  rcases h with h | ⟨h, h'⟩
  · left; rw [Nat.pow_add, ← Nat.mul_assoc, h]
  · exact .inr ⟨h.scale k, h'⟩
theorem nE (a : UInt64) : (a / 4503599627370496 % 2048).toNat = fE a.toNat := by
  rw [UInt64.toNat_mod, UInt64.toNat_div]; rfl
theorem nM5 (a : UInt64) : (a % 4503599627370496).toNat = fM a.toNat := by
  rw [UInt64.toNat_mod]; rfl
theorem fE_lt (n : Nat) : fE n < 2048 := by unfold fE; omega
theorem fM_lt (n : Nat) : fM n < 4503599627370496 := by unfold fM; omega
theorem ROdd_eq (a : UInt64) : ref05_Odd a = some (decide (fE a.toNat = 2047 ∧ fM a.toNat ≠ 0)) := by
  unfold ref05_Odd
  rw [lett_eq]
  congr 1
  rw [Bool.eq_iff_iff, Bool.and_eq_true, decide_eq_true_eq, decide_eq_true_eq, Bool.not_eq_true', decide_eq_false_iff_not, ← UInt64.toNat_inj, ← UInt64.toNat_inj, nE, nM5]
  exact Iff.rfl
theorem RFin_eq (a : UInt64) : ref05_Finite a = some (decide (fE a.toNat ≠ 2047)) := by
  unfold ref05_Finite
  rw [lett_eq]
  congr 1
  rw [Bool.eq_iff_iff, decide_eq_true_eq, Bool.not_eq_true', decide_eq_false_iff_not, ← UInt64.toNat_inj, nE]
  exact Iff.rfl
theorem wide_eq (a : UInt64) : ref05_wide a = some (UInt64.ofNat (fW a.toNat), (fX a.toNat : Int)) := by
  have h1 := fE_lt a.toNat
  have h2 := fM_lt a.toNat
  unfold ref05_wide
  rw [nE, w64_nat (by omega), lett_eq, lett_eq]
  unfold fW fX
  have hm : a % 4503599627370496 = UInt64.ofNat (fM a.toNat) := UInt64.toNat_inj.1 (by rw [nM5, UInt64.toNat_ofNat']; omega)
  by_cases h : fE a.toNat = 0
  · rw [bifTd (by omega), if_pos h, if_pos h, hm]; rfl
  · rw [bifFd (by omega), if_neg h, if_neg h, lett_eq, hm]
    refine congrArg some (Prod.ext (UInt64.toNat_inj.1 ?_) rfl)
    rw [UInt64.toNat_add, UInt64.toNat_ofNat', UInt64.toNat_ofNat', show (4503599627370496 : UInt64).toNat = 4503599627370496 from rfl]; omega
theorem prep {W V : UInt64} {e f : Nat} (hW : W.toNat < 9007199254740992) (hV : V.toNat < 9007199254740992) (he : 1 ≤ e ∧ e ≤ 2046) (hf : 1 ≤ f ∧ f ≤ 2046)
    (nW : 1 < e → 4503599627370496 ≤ W.toNat) (nV : 1 < f → 4503599627370496 ≤ V.toNat) :
    ∃ (m n : UInt64) (d g : Nat), (bif decide ((e : Int) < (f : Int)) then (ref05_shifted ((8 : UInt64) * W) (w64 ((f : Int) - (e : Int)))).bind fun r119 => some (r119, (f : Int), (8 : UInt64) * V)
      else (ref05_shifted ((8 : UInt64) * V) (w64 ((e : Int) - (f : Int)))).bind fun r128 => some ((8 : UInt64) * W, (e : Int), r128)) = some (m, (g : Int), n) ∧
      g = max e f ∧ g = min e f + d ∧ Two m.toNat n.toNat (8 * (W.toNat * 2 ^ (e - min e f))) (8 * (V.toNat * 2 ^ (f - min e f))) d ∧ m.toNat < 72057594037927936 ∧ n.toNat < 72057594037927936 ∧
      ((m.toNat * 2 ^ d = 8 * (W.toNat * 2 ^ (e - min e f)) ∧ n.toNat * 2 ^ d = 8 * (V.toNat * 2 ^ (f - min e f))) ∨ (36028797018963968 ≤ m.toNat ∧ n.toNat ≤ 9007199254740993) ∨ (36028797018963968 ≤ n.toNat ∧ m.toNat ≤ 9007199254740993)) := by
  have n8' : (8 : UInt64).toNat = 8 := rfl
  have e8W : ((8 : UInt64) * W).toNat = 8 * W.toNat := by rw [UInt64.toNat_mul, n8']; omega
  have e8V : ((8 : UInt64) * V).toNat = 8 * V.toNat := by rw [UInt64.toNat_mul, n8']; omega
  have small : ∀ (Z : UInt64) (d : Nat), Z.toNat < 9007199254740992 → ((8 : UInt64) * Z).toNat = 8 * Z.toNat → d ≤ 2045 → ∃ r, ref05_shifted ((8 : UInt64) * Z) (d : Int) = some r ∧ RepU 2 r.toNat (8 * Z.toNat) d ∧ r.toNat < 72057594037927936 ∧ (d ≤ 2 → r.toNat * 2 ^ d = 8 * Z.toNat) ∧ (3 ≤ d → r.toNat ≤ 9007199254740993) := by
    intro Z d hZ e8 hd
    obtain ⟨r, r1, r2, r3⟩ := shifted_eq ((8 : UInt64) * Z) (n := d) (by omega)
    rw [e8] at r2 r3
    refine ⟨r, r1, r2, ?_, fun h => exact_small r2 h, fun h => ?_⟩
    · by_cases h0 : d = 0
      · subst h0
        have := exact_small r2 (by omega)
        rw [Nat.pow_zero, Nat.mul_one] at this
        omega
      · have h1 : 2 ^ 1 ≤ 2 ^ d := Nat.pow_le_pow_right (by omega) (by omega)
        have h2 : 8 * Z.toNat / 2 ^ d ≤ 8 * Z.toNat / 2 ^ 1 := Nat.div_le_div_left h1 (by omega)
        rw [Nat.pow_one] at h2
        omega
    · have h1 : 2 ^ 3 ≤ 2 ^ d := Nat.pow_le_pow_right (by omega) h
      have h2 : 8 * Z.toNat / 2 ^ d ≤ 8 * Z.toNat / 2 ^ 3 := Nat.div_le_div_left h1 (by omega)
      rw [show (2 : Nat) ^ 3 = 8 from rfl] at h2
      omega
  by_cases h : e < f
  · obtain ⟨r, r1, r2, r3, r4, r5⟩ := small W (f - e) hW e8W (by omega)
    have hm : min e f = e := by omega
    have hx : (8 : UInt64) * V = (8 : UInt64) * V := rfl
    have ex : ((8 : UInt64) * V).toNat * 2 ^ (f - e) = 8 * (V.toNat * 2 ^ (f - e)) := by rw [e8V, Nat.mul_assoc]
    refine ⟨r, (8 : UInt64) * V, f - e, f, ?_, by omega, by omega, ?_, r3, by rw [e8V]; omega, ?_⟩
    · rw [bifTd (by omega), show (f : Int) - (e : Int) = ((f - e : Nat) : Int) by omega, w64_nat (by omega), r1, bind_some]
    · rw [hm, Nat.sub_self, Nat.pow_zero, Nat.mul_one]
      exact ⟨.inr ⟨ex, by rw [e8V]; omega, r2⟩⟩
    · rw [hm, Nat.sub_self, Nat.pow_zero, Nat.mul_one]
      by_cases hd : f - e ≤ 2
      · exact .inl ⟨r4 hd, ex⟩
      · refine .inr (.inr ⟨?_, r5 (by omega)⟩)
        rw [e8V]
        have := nV (by omega)
        omega
  · obtain ⟨r, r1, r2, r3, r4, r5⟩ := small V (e - f) hV e8V (by omega)
    have hm : min e f = f := by omega
    have ex : ((8 : UInt64) * W).toNat * 2 ^ (e - f) = 8 * (W.toNat * 2 ^ (e - f)) := by rw [e8W, Nat.mul_assoc]
    refine ⟨(8 : UInt64) * W, r, e - f, e, ?_, by omega, by omega, ?_, by rw [e8W]; omega, r3, ?_⟩
    · rw [bifFd (by omega), show (e : Int) - (f : Int) = ((e - f : Nat) : Int) by omega, w64_nat (by omega), r1, bind_some]
    · rw [hm, Nat.sub_self, Nat.pow_zero, Nat.mul_one]
      exact ⟨.inl ⟨ex, by rw [e8W]; omega, r2⟩⟩
    · rw [hm, Nat.sub_self, Nat.pow_zero, Nat.mul_one]
      by_cases hd : e - f ≤ 2
      · exact .inl ⟨ex, r4 hd⟩
      · refine .inr (.inl ⟨?_, r5 (by omega)⟩)
        rw [e8W]
        have := nW (by omega)
        omega
end Go.Lg
