/- Lemmas about the given model and about plain data, which the rows stand on: no statement of the program by itself. -/
import Derived.Test.YtmjgdjaneckdaaaLg05j
set_option linter.unusedVariables false
namespace Go.Lg
open Ieee
attribute [local irreducible] w64 toU64 toU8 shlU shrU shlB shrB

theorem numOdd_eq (a : UInt64) : num_Odd a = some (fOdd a.toNat) := by
  unfold num_Odd
  rw [lett_eq, fodd_of]
theorem numCanon_eq (a : UInt64) : num_Canon a = some (fCan a.toNat) := by
  unfold num_Canon fCan
  rw [numOdd_eq, bind_some]
  have e : UInt64.ofNat a.toNat = a := UInt64.toNat_inj.1 (by rw [UInt64.toNat_ofNat']; have := UInt64.toNat_lt a; omega)
  cases h : fOdd a.toNat
  · rw [if_neg (by simp), e]; rfl
  · rw [if_pos rfl]; rfl
theorem refCanon_eq (a : UInt64) : ref05_Canon a = some (fCan a.toNat) := by
  unfold ref05_Canon fCan
  rw [ROdd_eq, bind_some]
  have e : UInt64.ofNat a.toNat = a := UInt64.toNat_inj.1 (by rw [UInt64.toNat_ofNat']; have := UInt64.toNat_lt a; omega)
  show (bif fOdd a.toNat then _ else _) = _
  cases h : fOdd a.toNat
  · rw [if_neg (by simp), e]; rfl
  · rw [if_pos rfl]; rfl
theorem can_can (n : Nat) (h : n < 18446744073709551616) : fCan (fCan n).toNat = fCan n := by
  have hx : fOdd (9221120237041090561 : UInt64).toNat = true := by decide
  cases q : fOdd n
  · have e : fCan n = UInt64.ofNat n := by unfold fCan; rw [if_neg (by rw [q]; simp)]
    have e2 : (UInt64.ofNat n).toNat = n := by rw [UInt64.toNat_ofNat']; omega
    rw [e, e2, e]
  · have e : fCan n = 9221120237041090561 := by unfold fCan; rw [if_pos q]
    rw [e]
    unfold fCan
    rw [if_pos hx]
theorem and_exp (n : Nat) : n &&& 9218868437227405312 = fE n * 4503599627370496 := by
  have h : n &&& (2047 <<< 52) = ((n >>> 52) &&& 2047) <<< 52 := by
    apply Nat.eq_of_testBit_eq
    intro i
    simp only [Nat.testBit_and, Nat.testBit_shiftLeft, Nat.testBit_shiftRight]
    by_cases q : 52 ≤ i
    · rw [decide_eq_true q, Bool.true_and, Bool.true_and, show 52 + (i - 52) = i by omega]
    · rw [decide_eq_false q, Bool.false_and, Bool.and_false, Bool.false_and]
  have e1 : (2047 <<< 52 : Nat) = 9218868437227405312 := by decide
  have e2 : (2 : Nat) ^ 52 = 4503599627370496 := by decide
  have e3 : (2047 : Nat) = 2 ^ 11 - 1 := by decide
  rw [e1] at h
  rw [h, e3, Nat.and_two_pow_sub_one_eq_mod, Nat.shiftLeft_eq, Nat.shiftRight_eq_div_pow, e2]; rfl
theorem numFinite_eq (a : UInt64) : num_Finite a = some (decide (fE a.toNat ≠ 2047)) := by
  unfold num_Finite
  rw [lett_eq]
  congr 1
  rw [Bool.eq_iff_iff, Bool.not_eq_true', decide_eq_false_iff_not, decide_eq_true_eq, ← UInt64.toNat_inj, UInt64.toNat_and, show (9218868437227405312 : UInt64).toNat = 9218868437227405312 from rfl, and_exp]; omega
theorem numKinds (a : UInt64) : law05_NumKinds a = some true := by
  have ho : ref05_Odd a = some (fOdd a.toNat) := ROdd_eq a
  have h1 := can_can a.toNat (UInt64.toNat_lt a)
  unfold law05_NumKinds
  rw [awake05, bind_some, bifF (by rfl), numOdd_eq, bind_some, ho, bind_some, bifT (by simp), numFinite_eq, bind_some, RFin_eq, bind_some, bind_some, bifT (by simp), numCanon_eq, bind_some, refCanon_eq, bind_some, bind_some, bifT (by simp), bind_some, numCanon_eq, bind_some, bind_some, h1, bind_some, decide_eq_true rfl]
theorem sum_comm (x y : Datum) : x.sum y = y.sum x := by
  cases x <;> cases y <;> simp only [Datum.sum]
  · rename_i s m i t n j
    rw [Int.min_comm j i, Int.add_comm (signed t n _), Bool.and_comm t s]
  · rename_i s t
    by_cases h : s = t
    · subst h; rfl
    · rw [if_neg h, if_neg (fun e => h e.symm)]
theorem fAdd_comm (a b : UInt64) : fAdd a b = fAdd b a := by
  unfold fAdd Format.add
  rw [sum_comm]
theorem xor_top (x : Nat) (h : x < 9223372036854775808) : x ^^^ 9223372036854775808 = x + 9223372036854775808 := by
  have e : (9223372036854775808 : Nat) = 2 ^ 63 := by decide
  rw [e] at h ⊢
  have hq := Nat.two_pow_add_eq_or_of_lt h 1
  rw [Nat.mul_one] at hq
  rw [Nat.add_comm, hq]
  apply Nat.eq_of_testBit_eq
  intro i
  rw [Nat.testBit_xor, Nat.testBit_or, Nat.testBit_two_pow]
  by_cases q : 63 = i
  · subst q
    rw [Nat.testBit_lt_two_pow h]; simp
  · simp [q]
theorem xor_minus (b : UInt64) : b ^^^ 9223372036854775808 = fMinus b := by
  have h := UInt64.toNat_lt b
  have n : (9223372036854775808 : UInt64).toNat = 9223372036854775808 := rfl
  apply UInt64.toNat_inj.1
  rw [UInt64.toNat_xor, n]
  unfold fMinus fS
  by_cases q : 9223372036854775808 ≤ b.toNat
  · rw [decide_eq_true q, if_pos rfl, UInt64.toNat_sub, n]
    have hx := xor_top (b.toNat - 9223372036854775808) (by omega)
    rw [show b.toNat - 9223372036854775808 + 9223372036854775808 = b.toNat by omega] at hx
    rw [← hx, Nat.xor_assoc, Nat.xor_self, Nat.xor_zero]; omega
  · rw [decide_eq_false q, if_neg (by simp), UInt64.toNat_add, n, xor_top _ (by omega)]; omega
theorem sub_self_fin {a : UInt64} (h : fE a.toNat ≠ 2047) : fSub a a = 0 := by
  have hm := fMinus_nat a
  have ha := Add_fin (a := a) (b := fMinus a) h (by rw [hm.2.1]; exact h)
  rw [sub_add]
  have ra := read_eq (UInt64.toNat_lt a)
  rw [if_neg h] at ra
  unfold fAdd Format.add
  rw [read_minus, ra]
  simp only [Datum.opposite, sum_write, Option.map_some, Format.write]
  rw [if_neg (by cases fS a.toNat <;> simp), if_pos trivial, if_neg (by cases fS a.toNat <;> simp), if_pos (Nat.le_refl _), Nat.sub_self, nearest_zero]; rfl
theorem sub_self_inf {a : UInt64} (h : fE a.toNat = 2047) : fSub a a = 9221120237041090561 := by
  by_cases hM : fM a.toNat = 0
  · have ra := read_eq (UInt64.toNat_lt a)
    rw [if_pos h, if_pos hM] at ra
    unfold fSub Format.sub
    rw [ra]
    cases fS a.toNat <;> rfl
  · exact sub_odd ⟨h, hM⟩
theorem numTurns (a b : UInt64) : law05_NumTurns a b = some true := by
  unfold law05_NumTurns num_Add num_Sub
  rw [awake05, bind_some, bifF (by rfl), bind_some, bind_some, fAdd_comm b a, bifF (by simp), numOdd_eq, bind_some, xor_minus, sub_add a b]
  have hb : (bif !fOdd b.toNat then (some (fAdd a (fMinus b))).bind fun r63 => (some (fAdd a (fMinus b))).bind fun r72 => some (!decide (r63 = r72)) else some false) = some false := by
    cases fOdd b.toNat
    · rw [bifT (by rfl), bind_some, bind_some]; simp
    · rfl
  rw [hb, bind_some, bind_some, bifF rfl, numFinite_eq, bind_some]
  by_cases h : fE a.toNat = 2047
  · rw [decide_eq_false (by simpa using h), bifF rfl, sub_self_inf h]; rfl
  · rw [decide_eq_true h, bifT rfl, sub_self_fin h]; rfl
end Go.Lg
