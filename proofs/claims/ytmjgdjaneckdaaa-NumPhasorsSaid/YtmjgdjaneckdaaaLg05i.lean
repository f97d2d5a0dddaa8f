/- Lemmas about the given model and about plain data, which the rows stand on: no statement of the program by itself. -/
import Derived.Test.YtmjgdjaneckdaaaLg05h
set_option linter.unusedVariables false
namespace Go.Lg
open Ieee
attribute [local irreducible] w64 toU64 toU8 shlU shrU shlB shrB

theorem less_odd {a b : UInt64} (h : fOdd a.toNat = true ∨ fOdd b.toNat = true) : fLess a b = false := by
  have ra := read_eq (UInt64.toNat_lt a)
  have rb := read_eq (UInt64.toNat_lt b)
  unfold fLess Format.order
  rcases h with h | h
  · have h := of_decide_eq_true h
    rw [if_pos h.1, if_neg h.2] at ra
    rw [ra]; rfl
  · have h := of_decide_eq_true h
    rw [if_pos h.1, if_neg h.2] at rb
    rw [rb]
    generalize double.read a.toNat = x
    cases x <;> rfl
def lessN (a b : Nat) : Bool :=
  if a % 9223372036854775808 = 0 ∧ b % 9223372036854775808 = 0 then false
  else if fS a = true ∧ fS b = true then decide (b % 9223372036854775808 < a % 9223372036854775808)
  else if fS a = false ∧ fS b = false then decide (a % 9223372036854775808 < b % 9223372036854775808)
  else fS a
theorem fLess_eq {a b : UInt64} (oa : fOdd a.toNat = false) (ob : fOdd b.toNat = false) : fLess a b = lessN a.toNat b.toNat := by
  have la := UInt64.toNat_lt a
  have lb := UInt64.toNat_lt b
  have oa := of_decide_eq_false oa
  have ob := of_decide_eq_false ob
  have ra := read_eq la
  have rb := read_eq lb
  have a1 := fM_lt a.toNat; have a2 := fE_lt a.toNat; have b1 := fM_lt b.toNat; have b2 := fE_lt b.toNat
  have em : a.toNat % 9223372036854775808 = fE a.toNat * 4503599627370496 + fM a.toNat := by unfold fE fM; omega
  have en : b.toNat % 9223372036854775808 = fE b.toNat * 4503599627370496 + fM b.toNat := by unfold fE fM; omega
  unfold fLess
  generalize a.toNat = m at *
  generalize b.toNat = n at *
  by_cases ia : fE m = 2047
  · have Ma : fM m = 0 := Decidable.byContradiction fun q => oa ⟨ia, q⟩
    rw [if_pos ia, if_pos Ma] at ra
    by_cases ib : fE n = 2047
    · have Mb : fM n = 0 := Decidable.byContradiction fun q => ob ⟨ib, q⟩
      rw [if_pos ib, if_pos Mb] at rb
      unfold Format.order lessN
      rw [ra, rb, em, en, ia, ib, Ma, Mb]
      cases fS m <;> cases fS n <;> decide
    · rw [if_neg ib] at rb
      unfold Format.order lessN
      rw [ra, rb, em, en, ia, Ma, if_neg (by omega)]
      cases fS m <;> cases fS n <;> simp [Datum.order] <;> omega
  · rw [if_neg ia] at ra
    by_cases ib : fE n = 2047
    · have Mb : fM n = 0 := Decidable.byContradiction fun q => ob ⟨ib, q⟩
      rw [if_pos ib, if_pos Mb] at rb
      unfold Format.order lessN
      rw [ra, rb, em, en, ib, Mb, if_neg (by omega)]
      cases fS m <;> cases fS n <;> simp [Datum.order] <;> omega
    · have ho := order_fin la lb ia ib
      have h1 := fZ_mono ia ib
      have h2 := fZ_mono ib ia
      have hz : ∀ k, fE k ≠ 2047 → (fZ k = 0 ↔ k % 9223372036854775808 = 0) := by
        intro k _
        have hp := Nat.two_pow_pos (fX k - 1)
        unfold fZ
        rw [Nat.mul_eq_zero]
        constructor
        · intro q
          rcases q with q | q
          · have := (fW_facts k).2.2.2 q
            unfold fE fM at this; omega
          · omega
        · intro q
          left
          have e : fE k = 0 := by unfold fE; omega
          have e2 : fM k = 0 := by unfold fM; omega
          unfold fW; rw [if_pos e, e2]
      have z1 := hz m ia
      have z2 := hz n ib
      clear em en
      rw [Bool.eq_iff_iff, beq_iff_eq, ho]
      unfold lessN
      generalize m % 9223372036854775808 = x at *
      generalize n % 9223372036854775808 = y at *
      generalize fZ m = X at *
      generalize fZ n = Y at *
      clear ho ra rb hz
      generalize fS m = s
      generalize fS n = t
      by_cases h0 : x = 0 ∧ y = 0
      · have hX := z1.2 h0.1
        have hY := z2.2 h0.2
        rw [if_pos h0, hX, hY]
        cases s <;> cases t <;> simp
      · rw [if_neg h0]
        cases s <;> cases t
        · rw [if_neg (by simp), if_neg (by simp), if_neg (by simp), if_pos ⟨rfl, rfl⟩, decide_eq_true_eq]; omega
        · rw [if_neg (by simp), if_pos rfl, if_neg (by simp), if_neg (by simp)]
          simp only [Bool.false_eq_true, iff_false]; omega
        · rw [if_pos rfl, if_neg (by simp), if_neg (by simp), if_neg (by simp)]
          simp only [iff_true]; omega
        · rw [if_pos rfl, if_pos rfl, if_pos ⟨rfl, rfl⟩, decide_eq_true_eq]; omega
theorem Less_eq (a b : UInt64) : ref05_Less a b = some (fLess a b) := by
  have n63 : (9223372036854775808 : UInt64).toNat = 9223372036854775808 := rfl
  have z0 : (0 : UInt64).toNat = 0 := rfl
  unfold ref05_Less
  rw [ROdd_eq, ROdd_eq, bind_some]
  by_cases oa : fOdd a.toNat = true
  · rw [less_odd (.inl oa), show decide (fE a.toNat = 2047 ∧ fM a.toNat ≠ 0) = true from oa, bifT rfl, bind_some, bifT rfl]
  rw [show decide (fE a.toNat = 2047 ∧ fM a.toNat ≠ 0) = false from Bool.eq_false_iff.2 oa, bifF rfl, bind_some, bind_some]
  by_cases ob : fOdd b.toNat = true
  · rw [less_odd (.inr ob), show decide (fE b.toNat = 2047 ∧ fM b.toNat ≠ 0) = true from ob, bifT rfl]
  rw [show decide (fE b.toNat = 2047 ∧ fM b.toNat ≠ 0) = false from Bool.eq_false_iff.2 ob, bifF rfl, fLess_eq (Bool.eq_false_iff.2 oa) (Bool.eq_false_iff.2 ob), lett_eq, lett_eq]
  have ea : (a % 9223372036854775808).toNat = a.toNat % 9223372036854775808 := by rw [UInt64.toNat_mod, n63]
  have eb : (b % 9223372036854775808).toNat = b.toNat % 9223372036854775808 := by rw [UInt64.toNat_mod, n63]
  unfold lessN
  by_cases h0 : a.toNat % 9223372036854775808 = 0 ∧ b.toNat % 9223372036854775808 = 0
  · rw [if_pos h0, bifT]
    rw [Bool.and_eq_true, decide_eq_true_eq, decide_eq_true_eq, ← UInt64.toNat_inj, ← UInt64.toNat_inj, ea, eb, z0]; exact h0
  rw [if_neg h0, bifF (by rw [← Bool.decide_and, decide_eq_false_iff_not, ← UInt64.toNat_inj, ← UInt64.toNat_inj, ea, eb, z0]; exact h0)]
  have sa : decide (9223372036854775808 ≤ a) = fS a.toNat := by unfold fS; rw [decide_eq_decide, UInt64.le_iff_toNat_le]; exact Iff.rfl
  have sb : decide (9223372036854775808 ≤ b) = fS b.toNat := by unfold fS; rw [decide_eq_decide, UInt64.le_iff_toNat_le]; exact Iff.rfl
  have ta : decide (a < 9223372036854775808) = !fS a.toNat := by
    unfold fS; rw [Bool.eq_iff_iff, decide_eq_true_eq, Bool.not_eq_true', decide_eq_false_iff_not, UInt64.lt_iff_toNat_lt, n63]; omega
  have tb : decide (b < 9223372036854775808) = !fS b.toNat := by
    unfold fS; rw [Bool.eq_iff_iff, decide_eq_true_eq, Bool.not_eq_true', decide_eq_false_iff_not, UInt64.lt_iff_toNat_lt, n63]; omega
  have l1 : decide (b % 9223372036854775808 < a % 9223372036854775808) = decide (b.toNat % 9223372036854775808 < a.toNat % 9223372036854775808) := by
    rw [decide_eq_decide, UInt64.lt_iff_toNat_lt, ea, eb]
  have l2 : decide (a % 9223372036854775808 < b % 9223372036854775808) = decide (a.toNat % 9223372036854775808 < b.toNat % 9223372036854775808) := by
    rw [decide_eq_decide, UInt64.lt_iff_toNat_lt, ea, eb]
  rw [sa, sb, ta, tb, l1, l2]
  cases fS a.toNat <;> cases fS b.toNat <;> rfl
end Go.Lg
