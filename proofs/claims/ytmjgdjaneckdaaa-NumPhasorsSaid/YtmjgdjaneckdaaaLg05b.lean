/- Lemmas about the given model and about plain data, which the rows stand on: no statement of the program by itself. -/
import Derived.Test.YtmjgdjaneckdaaaLg05
import Derived.Test.YtmjgdjaneckdaaaLgNumP
set_option linter.unusedVariables false
namespace Go.Lg
open Ieee
attribute [local irreducible] w64 toU64 toU8 shlU shrU shlB shrB

/-! ### moved right, the last digit set if something went out -/
theorem or_one (x : Nat) : x ||| 1 = x + (1 - x % 2) := by
  rcases Nat.mod_two_eq_zero_or_one x with h | h
  · have := or_add (a := x / 2) (b := 1) (i := 1) (by decide)
    rw [Nat.pow_one, show x / 2 * 2 = x by omega] at this
    rw [this, h]
  · have := or_add (a := x / 2) (b := 1) (i := 1) (by decide)
    rw [Nat.pow_one, show x / 2 * 2 + 1 = x by omega] at this
    rw [h, Nat.sub_self, Nat.add_zero]
    conv => lhs; rw [← this]
    rw [Nat.or_assoc, Nat.or_self, this]
theorem st1_eq (m : Nat) : m / 2 ||| m % 2 = m / 2 + (if m % 2 = 1 ∧ m / 2 % 2 = 0 then 1 else 0) := by
  rcases Nat.mod_two_eq_zero_or_one m with h | h
  · rw [h, Nat.or_zero, if_neg (by omega)]; rfl
  · rw [h, or_one]
    by_cases q : m / 2 % 2 = 0
    · rw [if_pos ⟨rfl, q⟩, q]
    · rw [if_neg (fun e => q e.2)]; omega
theorem RepU.half {m N c : Nat} (h : RepU 2 m N c) : RepU 2 (m / 2 ||| m % 2) N (c + 1) := fun t => by
  obtain ⟨a, b⟩ := h (2 * t)
  have e : 2 * t * 2 ^ (c + 1) = 2 * (2 * t) * 2 ^ c := by rw [Nat.pow_succ]; grind
  rw [e, ← a, ← b, st1_eq]
  split <;> constructor <;> constructor <;> omega
theorem RepU.double {m N c : Nat} (h : RepU 2 m N (c + 1)) : RepU 4 (2 * m) N c := fun t => by
  obtain ⟨a, b⟩ := h t
  have e : 4 * t * 2 ^ c = 2 * t * 2 ^ (c + 1) := by rw [Nat.pow_succ]; grind
  rw [e, ← a, ← b]
  constructor <;> constructor <;> omega
theorem RepU.small {m N i n : Nat} (h : RepU 2 m N i) (hm : m < 2) (hn : i ≤ n) : RepU 2 m N n := fun t => by
  obtain ⟨a0, b0⟩ := h 0
  have hle := (h.le t)
  obtain ⟨k, rfl⟩ : ∃ k, n = i + k := ⟨n - i, by omega⟩
  have hp : 1 ≤ 2 ^ k := Nat.one_le_two_pow
  have hmul : 2 * t * 2 ^ i ≤ 2 * t * 2 ^ (i + k) := by
    rw [Nat.pow_add, ← Nat.mul_assoc]
    exact Nat.le_mul_of_pos_right _ hp
  simp only [Nat.mul_zero, Nat.zero_mul] at a0 b0
  by_cases ht : t = 0
  · subst ht
    simp only [Nat.mul_zero, Nat.zero_mul]
    exact ⟨a0, b0⟩
  · have h1 : ¬ 2 * t ≤ m := by omega
    have h2 : ¬ 2 * t * 2 ^ i ≤ N := fun e => h1 (hle.2 e)
    constructor <;> constructor <;> intro q <;> omega
theorem st_u (m : UInt64) : (m / 2 ||| m % 2).toNat = m.toNat / 2 ||| m.toNat % 2 := by
  rw [UInt64.toNat_or, UInt64.toNat_div, UInt64.toNat_mod]; rfl
theorem shifted_eq (a : UInt64) {n : Nat} (hn : n ≤ 4000) : ∃ r, ref05_shifted a (n : Int) = some r ∧ RepU 2 r.toNat a.toNat n ∧ r.toNat ≤ a.toNat / 2 ^ n + 1 := by
  have key : ∀ (k i : Nat) (m : UInt64), i + k = n → RepU 2 m.toNat a.toNat i → ∃ p, loop (ref05_shifted_lp1 (n : Int)) (m, (i : Int)) = some p ∧ ∃ r, (p = .go r ∨ p = .out r) ∧ RepU 2 r.toNat a.toNat n := by
    intro k
    induction k with
    | zero =>
      intro i m hi h
      refine ⟨.go m, loop_brk ?_, m, .inl rfl, by rw [show n = i by omega]; exact h⟩
      unfold ref05_shifted_lp1
      dsimp only
      rw [bifFd (by omega)]
    | succ k ih =>
      intro i m hi h
      by_cases hm : m.toNat < 2
      · refine ⟨.out m, loop_out ?_, m, .inr rfl, h.small hm (by omega)⟩
        unfold ref05_shifted_lp1
        dsimp only
        rw [bifTd (by omega), bifTd (by rw [UInt64.lt_iff_toNat_lt]; exact hm)]; rfl
      · have hs := h.half
        rw [← st_u] at hs
        obtain ⟨p, p1, p2⟩ := ih (i + 1) (m / 2 ||| m % 2) (by omega) hs
        refine ⟨p, ?_, p2⟩
        rw [← p1]
        refine loop_next ?_
        unfold ref05_shifted_lp1
        dsimp only
        rw [bifTd (by omega), bifFd (by rw [UInt64.lt_iff_toNat_lt]; exact hm), lett_eq, lett_eq, w64_succ (by omega)]
  obtain ⟨p, p1, r, p2, p3⟩ := key n 0 a (by omega) (RepU.exact (by simp))
  have p1' : loop (ref05_shifted_lp1 (n : Int)) (a, 0) = some p := p1
  refine ⟨r, ?_, p3, ?_⟩
  · unfold ref05_shifted
    rw [p1']
    rcases p2 with rfl | rfl <;> rfl
  · -- above: 2 * ((a / 2^n) / 2 + 1) * 2^n is above a
    have h := mt (p3.le (a.toNat / 2 ^ n / 2 + 1)).1
    have hp := Nat.two_pow_pos n
    have hd := Nat.lt_div_mul_add (a := a.toNat) hp
    have h1 : a.toNat < 2 * (a.toNat / 2 ^ n / 2 + 1) * 2 ^ n := by
      have : a.toNat / 2 ^ n + 1 ≤ 2 * (a.toNat / 2 ^ n / 2 + 1) := by omega
      have := Nat.mul_le_mul_right (2 ^ n) this
      rw [Nat.add_mul, Nat.one_mul] at this
      omega
    have h2 := h (by omega)
    omega
end Go.Lg
