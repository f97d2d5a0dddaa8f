/- Lemmas about the given model and about plain data, which the rows stand on: no statement of the program by itself. -/
import Derived.Test.YtmjgdjaneckdaaaLg05c
set_option linter.unusedVariables false
namespace Go.Lg
open Ieee
attribute [local irreducible] w64 toU64 toU8 shlU shrU shlB shrB

/-! ### what bits stand for -/
def fW (n : Nat) : Nat := if fE n = 0 then fM n else fM n + 4503599627370496
def fX (n : Nat) : Nat := if fE n = 0 then 1 else fE n
theorem read_eq {n : Nat} (h : n < 18446744073709551616) : double.read n =
    if fE n = 2047 then (if fM n = 0 then .infinity (fS n) else .nan (fS n) (fM n)) else .number (fS n) (fW n) ((fX n : Int) - 1075) := by
  have hsw : double.signWeight = 9223372036854775808 := by decide
  have hb : double.binade = 4503599627370496 := by decide
  have hinf : double.infRung = 9218868437227405312 := by decide
  have hl : double.leastPlace = -1074 := by decide
  have hs : (n / 9223372036854775808 % 2 == 1) = fS n := by
    unfold fS
    by_cases q : 9223372036854775808 ≤ n
    · rw [decide_eq_true q]; simp; omega
    · rw [decide_eq_false q]; simp; omega
  unfold Format.read
  simp only [hsw, hb, hinf, hl, hs]
  unfold fW fX fE fM
  by_cases h0 : n / 4503599627370496 % 2048 = 0
  · rw [if_pos (by omega), if_neg (by omega), if_pos h0, if_pos h0, show n % 9223372036854775808 = n % 4503599627370496 by omega]; rfl
  · rw [if_neg (by omega)]
    by_cases h1 : n / 4503599627370496 % 2048 = 2047
    · rw [if_neg (by omega), if_pos h1]
      by_cases h2 : n % 4503599627370496 = 0
      · rw [if_pos (by omega), if_pos h2]
      · rw [if_neg (by omega), if_neg h2, show n % 9223372036854775808 - 9218868437227405312 = n % 4503599627370496 by omega]
    · rw [if_pos (by omega), if_neg h1, if_neg h0, if_neg h0]
      congr 1
      · omega
      · omega
/-- two sizes at unit d, at least one of them whole -/
structure Two (m n X Y d : Nat) : Prop where
  h : (m * 2 ^ d = X ∧ m % 2 = 0 ∧ RepU 2 n Y d) ∨ (n * 2 ^ d = Y ∧ n % 2 = 0 ∧ RepU 2 m X d)
theorem Two.swap {m n X Y d : Nat} (t : Two m n X Y d) : Two n m Y X d := ⟨t.h.elim .inr .inl⟩
theorem Two.lt {m n X Y d : Nat} (t : Two m n X Y d) : (n < m ↔ Y < X) ∧ (n = m ↔ Y = X) := by
  rcases t.h with ⟨h1, h2, h3⟩ | ⟨h1, h2, h3⟩
  · obtain ⟨a, b⟩ := h3 (m / 2)
    have l := h3.le (m / 2)
    rw [show 2 * (m / 2) = m by omega, h1] at a b l
    exact ⟨by constructor <;> intro q <;> omega, by rw [eq_comm, b, eq_comm]⟩
  · obtain ⟨a, b⟩ := h3 (n / 2)
    rw [show 2 * (n / 2) = n by omega, h1] at a b
    exact ⟨a, b⟩
theorem rep_add {B r n d : Nat} (h : RepU 2 r n d) (hB : B % 2 = 0) : RepU 2 (B + r) (B * 2 ^ d + n) d := fun t => by
  have hp := Nat.two_pow_pos d
  by_cases q : 2 * t < B
  · have : 2 * t * 2 ^ d < B * 2 ^ d := (Nat.mul_lt_mul_right hp).2 q
    constructor <;> constructor <;> intro _ <;> omega
  · obtain ⟨a, b⟩ := h (t - B / 2)
    have e : 2 * t = B + 2 * (t - B / 2) := by omega
    rw [e, Nat.add_mul]
    constructor <;> constructor <;> intro z
    · have := a.1 (by omega); omega
    · have := a.2 (by omega); omega
    · have := b.1 (by omega); omega
    · have := b.2 (by omega); omega
theorem Two.add {m n X Y d : Nat} (t : Two m n X Y d) : RepU 2 (m + n) (X + Y) d := by
  rcases t.h with ⟨h1, h2, h3⟩ | ⟨h1, h2, h3⟩
  · rw [← h1]; exact rep_add h3 h2
  · rw [← h1, Nat.add_comm m, Nat.add_comm X]; exact rep_add h3 h2
theorem Two.sub {m n X Y d : Nat} (t : Two m n X Y d) (h : n ≤ m) : RepU 2 (m - n) (X - Y) d := by
  have hp := Nat.two_pow_pos d
  have hl := t.lt
  have hXY : Y ≤ X := by
    rcases Nat.lt_or_eq_of_le h with q | q
    · exact Nat.le_of_lt (hl.1.1 q)
    · exact Nat.le_of_eq (hl.2.1 q)
  rcases t.h with ⟨h1, h2, h3⟩ | ⟨h1, h2, h3⟩
  · intro t
    by_cases q : 2 * t ≤ m
    · obtain ⟨a, b⟩ := h3 (m / 2 - t)
      have l := h3.le (m / 2 - t)
      have e : 2 * (m / 2 - t) = m - 2 * t := by omega
      have hq : 2 * t * 2 ^ d ≤ X := by rw [← h1]; exact Nat.mul_le_mul_right _ q
      rw [e, Nat.sub_mul, h1] at a b l
      constructor <;> constructor <;> intro z <;> omega
    · have : X < 2 * t * 2 ^ d := by rw [← h1]; exact (Nat.mul_lt_mul_right hp).2 (by omega)
      constructor <;> constructor <;> intro z <;> omega
  · intro t
    obtain ⟨a, b⟩ := h3 (t + n / 2)
    have e : 2 * (t + n / 2) = 2 * t + n := by omega
    rw [e, Nat.add_mul, h1] at a b
    constructor <;> constructor <;> intro z <;> omega
theorem exact_small {r W d : Nat} (h : RepU 2 r (8 * W) d) (hd : d ≤ 2) : r * 2 ^ d = 8 * W := by
  have : d = 0 ∨ d = 1 ∨ d = 2 := by omega
  rcases this with rfl | rfl | rfl
  · have := (h (4 * W)).2.2 (by omega); omega
  · have := (h (2 * W)).2.2 (by omega); omega
  · have := (h W).2.2 (by omega); omega
end Go.Lg
