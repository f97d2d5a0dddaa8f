/- Lemmas about the given model and about plain data, which the rows stand on: no statement of the program by itself. -/
import Ieee.Arith
import Derived.Test.YtmjgdjaneckdaaaLgLoop
set_option linter.unusedVariables false
namespace Go.Lg
open Ieee

/-! ### to the nearest, between two to the even one -/
def rne (N g : Nat) : Nat := N / 2 ^ g + (if 2 ^ g < 2 * (N % 2 ^ g) ∨ (2 ^ g = 2 * (N % 2 ^ g) ∧ N / 2 ^ g % 2 = 1) then 1 else 0)
theorem log_lt (n : Nat) : n < 2 ^ (n.log2 + 1) := Nat.lt_log2_self
theorem cut_eq (neg : Bool) (N g : Nat) : Toward.even.cut neg N g = rne N g := by
  unfold Toward.cut rne
  simp only [Nat.shiftLeft_eq, Nat.one_mul]
  by_cases h : g ≤ N.log2 + 2
  · rw [Nat.min_eq_left h]
    by_cases a : 2 ^ g < 2 * (N % 2 ^ g)
    · simp [a]
    · by_cases b : 2 ^ g = 2 * (N % 2 ^ g) ∧ N / 2 ^ g % 2 = 1
      · rw [if_pos (.inr b)]
        have : (2 ^ g == 2 * (N % 2 ^ g)) = true := by simp only [beq_iff_eq]; exact b.1
        rw [this]
        simp [b.2]
      · rw [if_neg (fun e => e.elim a b)]
        have : ((2 ^ g == 2 * (N % 2 ^ g)) && N / 2 ^ g % 2 == 1) = false := by
          rw [Bool.and_eq_false_iff]
          by_cases c : 2 ^ g = 2 * (N % 2 ^ g)
          · right
            have : ¬ N / 2 ^ g % 2 = 1 := fun e => b ⟨c, e⟩
            simpa using this
          · left; simpa using c
        rw [this]
        simp [a]
  · have hl := log_lt N
    have h1 : N < 2 ^ (N.log2 + 2) := Nat.lt_trans hl (Nat.pow_lt_pow_right (by omega) (by omega))
    have h2 : N.log2 + 2 ≤ g := by omega
    have h3 : 2 ^ (N.log2 + 2) ≤ 2 ^ g := Nat.pow_le_pow_right (by omega) h2
    have e : 2 ^ (N.log2 + 2) = 2 * 2 ^ (N.log2 + 1) := by rw [Nat.pow_succ]; omega
    rw [Nat.min_eq_right h2, Nat.div_eq_of_lt h1, Nat.mod_eq_of_lt h1, Nat.div_eq_of_lt (show N < 2 ^ g by omega), Nat.mod_eq_of_lt (show N < 2 ^ g by omega)]
    rw [if_neg (by omega)]
    have a : ¬ 2 ^ (N.log2 + 2) < 2 * N := by omega
    simp [a]
/-- as m, in units of 2^c, so N: at multiples of u -/
def RepU (u m N c : Nat) : Prop := ∀ t : Nat, (u * t < m ↔ u * t * 2 ^ c < N) ∧ (u * t = m ↔ u * t * 2 ^ c = N)
theorem RepU.exact {u m N c : Nat} (h : m * 2 ^ c = N) : RepU u m N c := by
  intro t
  have hp : 0 < 2 ^ c := Nat.two_pow_pos c
  rw [← h]
  exact ⟨(Nat.mul_lt_mul_right hp).symm, (Nat.mul_left_inj (by omega)).symm⟩
theorem RepU.coarse {u v m N c : Nat} (h : RepU u m N c) : RepU (u * v) m N c := fun t => by
  have := h (v * t)
  rwa [← Nat.mul_assoc] at this
theorem RepU.scale {u m N c : Nat} (h : RepU u m N c) (a : Nat) : RepU u m (N * 2 ^ a) (c + a) := fun t => by
  have hp : 0 < 2 ^ a := Nat.two_pow_pos a
  have := h t
  rw [Nat.pow_add, ← Nat.mul_assoc, Nat.mul_lt_mul_right hp, Nat.mul_left_inj (by omega)]
  exact this
theorem RepU.le {u m N c : Nat} (h : RepU u m N c) (t : Nat) : (u * t ≤ m ↔ u * t * 2 ^ c ≤ N) := by
  obtain ⟨a, b⟩ := h t
  constructor
  · intro q
    rcases Nat.lt_or_eq_of_le q with q | q
    · exact Nat.le_of_lt (a.1 q)
    · exact Nat.le_of_eq (b.1 q)
  · intro q
    rcases Nat.lt_or_eq_of_le q with q | q
    · exact Nat.le_of_lt (a.2 q)
    · exact Nat.le_of_eq (b.2 q)
theorem rne_rep {m N c : Nat} (h : RepU 4 m N c) : rne N (c + 3) = rne m 3 := by
  have hp : 0 < 2 ^ c := Nat.two_pow_pos c
  have e3 : 2 ^ (c + 3) = 8 * 2 ^ c := by rw [Nat.pow_add]; omega
  have hq : N / 2 ^ (c + 3) = m / 8 := by
    have l1 := (h.le (2 * (m / 8))).1 (by omega)
    have l2 := mt (h.le (2 * (m / 8) + 2)).2 (by omega)
    rw [e3]
    apply Nat.div_eq_of_lt_le
    · rw [← Nat.mul_assoc]
      rw [show m / 8 * 8 = 4 * (2 * (m / 8)) by omega]; exact l1
    · rw [← Nat.mul_assoc]
      rw [show (m / 8 + 1) * 8 = 4 * (2 * (m / 8) + 2) by omega]; omega
  obtain ⟨a, b⟩ := h (2 * (m / 8) + 1)
  have hN := Nat.div_add_mod N (2 ^ (c + 3))
  rw [hq, e3] at hN
  have e4 : 4 * (2 * (m / 8) + 1) * 2 ^ c = 8 * 2 ^ c * (m / 8) + 4 * 2 ^ c := by grind
  rw [e4] at a b
  unfold rne
  rw [hq, e3]
  have e8 : (2 : Nat) ^ 3 = 8 := rfl
  rw [e8]
  generalize hX : 8 * 2 ^ c * (m / 8) = X at *
  generalize hR : N % (8 * 2 ^ c) = R at *
  have c1 : 8 * 2 ^ c < 2 * R ↔ 8 < 2 * (m % 8) := by
    constructor
    · intro q; have := a.2 (by omega); omega
    · intro q; have := a.1 (by omega); omega
  have c2 : 8 * 2 ^ c = 2 * R ↔ 8 = 2 * (m % 8) := by
    constructor
    · intro q; have := b.2 (by omega); omega
    · intro q; have := b.1 (by omega); omega
  simp only [c1, c2]
theorem rne_scale (N g a : Nat) : rne (N * 2 ^ a) (g + a) = rne N g := by
  have hp : 0 < 2 ^ a := Nat.two_pow_pos a
  unfold rne
  rw [Nat.pow_add, Nat.mul_div_mul_right _ _ hp, Nat.mul_mod_mul_right, ← Nat.mul_assoc]
  simp only [Nat.mul_lt_mul_right hp, Nat.mul_left_inj (show 2 ^ a ≠ 0 by omega)]
theorem rne_zero (N : Nat) : rne N 0 = N := by
  unfold rne
  simp [Nat.mod_one]

/-- what the nearest word is: N is mag * 2^K, e the exponent at which m stands -/
theorem nearest_eq {neg : Bool} {mag m c e K : Nat} {place : Int} (hm : mag ≠ 0) (hK : (c : Int) = (e : Int) - 1078 - place + K) (h : RepU 4 m (mag * 2 ^ K) c)
    (he : 1 ≤ e) (h1 : m < 72057594037927936) (h2 : 36028797018963968 ≤ m ∨ e = 1) :
    double.nearest neg mag place = double.word neg (min ((e - 1) * 4503599627370496 + rne m 3) double.infRung) := by
  have hN0 : mag * 2 ^ K ≠ 0 := by
    have := Nat.two_pow_pos K
    exact Nat.mul_ne_zero hm (by omega)
  have hlogK : (mag * 2 ^ K).log2 = mag.log2 + K := by
    have hl := Nat.log2_self_le hm
    have hu := log_lt mag
    have hp := Nat.two_pow_pos K
    apply Nat.le_antisymm
    · apply Nat.le_of_lt_succ
      rw [Nat.log2_lt hN0, Nat.succ_eq_add_one, show mag.log2 + K + 1 = mag.log2 + 1 + K by omega, Nat.pow_add]
      exact (Nat.mul_lt_mul_right hp).2 hu
    · rw [Nat.le_log2 hN0, Nat.pow_add]
      exact Nat.mul_le_mul_right _ hl
  have hup := mt (h.le 18014398509481984).2 (by omega)
  have hlt : (mag * 2 ^ K).log2 < 56 + c := by
    rw [Nat.log2_lt hN0, Nat.pow_add]
    have : (2 : Nat) ^ 56 = 4 * 18014398509481984 := by decide
    rw [this]; omega
  have hlast : max (place + (mag.log2 : Int) - 52) (-1074) = (e : Int) - 1075 := by
    rcases h2 with h2 | h2
    · have hlo := (h.le 9007199254740992).1 (by omega)
      have : 55 + c ≤ (mag * 2 ^ K).log2 := by
        rw [Nat.le_log2 hN0, Nat.pow_add]
        have : (2 : Nat) ^ 55 = 4 * 9007199254740992 := by decide
        rw [this]; exact hlo
      omega
    · by_cases h3 : 36028797018963968 ≤ m
      · have hlo := (h.le 9007199254740992).1 (by omega)
        have : 55 + c ≤ (mag * 2 ^ K).log2 := by
          rw [Nat.le_log2 hN0, Nat.pow_add]
          have : (2 : Nat) ^ 55 = 4 * 9007199254740992 := by decide
          rw [this]; exact hlo
        omega
      · have hup := mt (h.le 9007199254740992).2 (by omega)
        have : (mag * 2 ^ K).log2 < 55 + c := by
          rw [Nat.log2_lt hN0, Nat.pow_add]
          have : (2 : Nat) ^ 55 = 4 * 9007199254740992 := by decide
          rw [this]; omega
        omega
  have hfl : double.leastPlace = -1074 := by decide
  have hff : ((double.fractionBits : Nat) : Int) = 52 := by decide
  have hb : double.binade = 4503599627370496 := by decide
  unfold Format.nearest
  rw [if_neg hm]
  simp only [hfl, hff, hlast, hb, cut_eq, Nat.shiftLeft_eq]
  have hk : rne (mag * 2 ^ (place - ((e : Int) - 1075)).toNat) ((e : Int) - 1075 - place).toNat = rne m 3 := by
    rw [← rne_rep h]
    by_cases hp : place ≤ (e : Int) - 1075
    · rw [show (place - ((e : Int) - 1075)).toNat = 0 by omega, Nat.pow_zero, Nat.mul_one, show c + 3 = ((e : Int) - 1075 - place).toNat + K by omega, rne_scale]
    · rw [show ((e : Int) - 1075 - place).toNat = 0 by omega]
      have := rne_scale (mag * 2 ^ (place - ((e : Int) - 1075)).toNat) 0 (c + 3)
      rw [Nat.zero_add, Nat.mul_assoc, ← Nat.pow_add, show (place - ((e : Int) - 1075)).toNat + (c + 3) = K by omega] at this
      exact this.symm
  rw [hk, show ((e : Int) - 1075 - -1074).toNat = e - 1 by omega]
end Go.Lg
