/- Lemmas about the given model and about plain data, which the rows stand on: no statement of the program by itself. -/
import Derived.Test.YtmjgdjaneckdaaaLg05g
set_option linter.unusedVariables false
namespace Go.Lg
open Ieee
attribute [local irreducible] w64 toU64 toU8 shlU shrU shlB shrB

/-- the other sign -/
def fMinus (b : UInt64) : UInt64 := if fS b.toNat then b - 9223372036854775808 else b + 9223372036854775808
theorem Minus_eq (b : UInt64) : ref05_Minus b = some (fMinus b) := by
  unfold ref05_Minus fMinus fS
  by_cases q : 9223372036854775808 ≤ b.toNat
  · rw [bifTd (by rw [UInt64.le_iff_toNat_le]; exact q), decide_eq_true q, if_pos rfl, lett_eq]
  · rw [bifFd (by rw [UInt64.le_iff_toNat_le]; exact q), decide_eq_false q, if_neg (by simp), lett_eq]
theorem fMinus_nat (b : UInt64) : fS (fMinus b).toNat = !fS b.toNat ∧ fE (fMinus b).toNat = fE b.toNat ∧ fM (fMinus b).toNat = fM b.toNat := by
  have h := UInt64.toNat_lt b
  have n : (9223372036854775808 : UInt64).toNat = 9223372036854775808 := rfl
  unfold fMinus
  by_cases q : 9223372036854775808 ≤ b.toNat
  · have e : (b - 9223372036854775808).toNat = b.toNat - 9223372036854775808 := by rw [UInt64.toNat_sub, n]; omega
    unfold fS
    rw [decide_eq_true q, if_pos rfl, e]
    unfold fE fM
    exact ⟨decide_eq_false (by omega), by omega, by omega⟩
  · have e : (b + 9223372036854775808).toNat = b.toNat + 9223372036854775808 := by rw [UInt64.toNat_add, n]; omega
    unfold fS
    rw [decide_eq_false q, if_neg (by simp), e]
    unfold fE fM
    exact ⟨decide_eq_true (by omega), by omega, by omega⟩
theorem fW_congr {m n : Nat} (h : fE m = fE n) (h' : fM m = fM n) : fW m = fW n ∧ fX m = fX n := by
  unfold fW fX
  rw [h, h']
  exact ⟨rfl, rfl⟩
theorem read_minus (b : UInt64) : double.read (fMinus b).toNat = (double.read b.toNat).opposite := by
  obtain ⟨h1, h2, h3⟩ := fMinus_nat b
  obtain ⟨h4, h5⟩ := fW_congr h2 h3
  rw [read_eq (UInt64.toNat_lt _), read_eq (UInt64.toNat_lt _), h1, h2, h3, h4, h5]
  by_cases a : fE b.toNat = 2047
  · rw [if_pos a, if_pos a]
    by_cases c : fM b.toNat = 0
    · rw [if_pos c, if_pos c]; rfl
    · rw [if_neg c, if_neg c]; rfl
  · rw [if_neg a, if_neg a]; rfl
theorem sub_add (a b : UInt64) : fSub a b = fAdd a (fMinus b) := by
  unfold fSub fAdd Format.sub Format.add
  rw [read_minus]
theorem sub_odd {a b : UInt64} (h : fE b.toNat = 2047 ∧ fM b.toNat ≠ 0) : fSub a b = 9221120237041090561 := by
  have rb := read_eq (UInt64.toNat_lt b)
  rw [if_pos h.1, if_neg h.2] at rb
  unfold fSub Format.sub
  rw [rb]
  generalize double.read a.toNat = x
  cases x <;> rfl
theorem Sub_eq (a b : UInt64) : ref05_Sub a b = some (fSub a b) := by
  unfold ref05_Sub
  by_cases h : fE b.toNat = 2047 ∧ fM b.toNat ≠ 0
  · rw [ROdd_eq, decide_eq_true h, bind_some, bifT rfl, sub_odd h]
  · rw [ROdd_eq, decide_eq_false h, bind_some, bifF rfl, Minus_eq, bind_some, Add_eq, bind_some, sub_add]

/-! ### which is below -/
/-- a finite float's size in the least unit -/
def fZ (n : Nat) : Nat := fW n * 2 ^ (fX n - 1)
theorem fZ_mono {m n : Nat} (hm : fE m ≠ 2047) (hn : fE n ≠ 2047) : (fZ m < fZ n ↔ m % 9223372036854775808 < n % 9223372036854775808) := by
  have key : ∀ {m n : Nat}, fE m ≠ 2047 → fE n ≠ 2047 → m % 9223372036854775808 < n % 9223372036854775808 → fZ m < fZ n := by
    intro m n hm hn h
    have a1 := fM_lt m; have a2 := fM_lt n; have b1 := fE_lt m; have b2 := fE_lt n
    have em : m % 9223372036854775808 = fE m * 4503599627370496 + fM m := by unfold fE fM; omega
    have en : n % 9223372036854775808 = fE n * 4503599627370496 + fM n := by unfold fE fM; omega
    rw [em, en] at h
    unfold fZ
    by_cases he : fX m = fX n
    · rw [he]
      have hp := Nat.two_pow_pos (fX n - 1)
      refine (Nat.mul_lt_mul_right hp).2 ?_
      unfold fX at he
      unfold fW
      split at he <;> split at he <;> simp only [*, if_true, if_false] <;> omega
    · have hlt : fX m < fX n := by
        unfold fX at *
        split <;> split <;> simp_all <;> omega
      have hn0 : fE n ≠ 0 := by
        intro e
        unfold fX at hlt
        rw [if_pos e] at hlt
        split at hlt <;> omega
      have hwn : 4503599627370496 ≤ fW n := by unfold fW; rw [if_neg hn0]; omega
      have hwm : fW m < 9007199254740992 := (fW_facts m).1
      have hfm : 1 ≤ fX m := (fW_facts m).2.2.1
      have e1 : 2 ^ (fX n - 1) = 2 ^ (fX m - 1) * 2 ^ (fX n - fX m) := by rw [← Nat.pow_add]; congr 1; omega
      have h2 : 2 ^ 1 ≤ 2 ^ (fX n - fX m) := Nat.pow_le_pow_right (by omega) (by omega)
      rw [Nat.pow_one] at h2
      have hp := Nat.two_pow_pos (fX m - 1)
      have l1 : fW m * 2 ^ (fX m - 1) < 9007199254740992 * 2 ^ (fX m - 1) := (Nat.mul_lt_mul_right hp).2 hwm
      have l2 : 4503599627370496 * (2 ^ (fX m - 1) * 2) ≤ fW n * (2 ^ (fX m - 1) * 2 ^ (fX n - fX m)) := Nat.mul_le_mul hwn (Nat.mul_le_mul_left _ h2)
      rw [e1]
      omega
  constructor
  · intro h
    apply Decidable.byContradiction
    intro q
    by_cases e : m % 9223372036854775808 = n % 9223372036854775808
    · have a : fE m = fE n := by unfold fE; omega
      have b : fM m = fM n := by unfold fM; omega
      obtain ⟨c, d⟩ := fW_congr a b
      unfold fZ at h
      rw [c, d] at h
      omega
    · have := key hn hm (by omega)
      omega
  · exact key hm hn
theorem fZ_scale (n : Nat) (B : Nat) (hB : 1 ≤ B) (h : B ≤ fX n) : fW n * 2 ^ (fX n - B) * 2 ^ (B - 1) = fZ n := by
  unfold fZ
  rw [Nat.mul_assoc, ← Nat.pow_add]
  congr 2; omega
theorem order_fin {a b : Nat} (ha : a < 18446744073709551616) (hb : b < 18446744073709551616) (fa : fE a ≠ 2047) (fb : fE b ≠ 2047) :
    (double.order a b = some .lt) ↔ ((if fS a then -(fZ a : Int) else (fZ a : Int)) < (if fS b then -(fZ b : Int) else (fZ b : Int))) := by
  have ra := read_eq ha
  have rb := read_eq hb
  rw [if_neg fa] at ra
  rw [if_neg fb] at rb
  have xa := (fW_facts a).2.2.1
  have xb := (fW_facts b).2.2.1
  unfold Format.order
  rw [ra, rb]
  unfold Datum.order
  have hbm : min ((fX a : Int) - 1075) ((fX b : Int) - 1075) = ((min (fX a) (fX b) : Nat) : Int) - 1075 := by omega
  simp only [hbm]
  rw [show ((fX a : Int) - 1075 - (((min (fX a) (fX b) : Nat) : Int) - 1075)).toNat = fX a - min (fX a) (fX b) by omega, show ((fX b : Int) - 1075 - (((min (fX a) (fX b) : Nat) : Int) - 1075)).toNat = fX b - min (fX a) (fX b) by omega, signed_eq, signed_eq]
  have s1 := fZ_scale a (min (fX a) (fX b)) (by omega) (by omega)
  have s2 := fZ_scale b (min (fX a) (fX b)) (by omega) (by omega)
  have hp := Nat.two_pow_pos (min (fX a) (fX b) - 1)
  generalize fW a * 2 ^ (fX a - min (fX a) (fX b)) = X at *
  generalize fW b * 2 ^ (fX b - min (fX a) (fX b)) = Y at *
  generalize 2 ^ (min (fX a) (fX b) - 1) = P at *
  rw [← s1, ← s2]
  have c1 : X * P < Y * P ↔ X < Y := Nat.mul_lt_mul_right hp
  have c2 : Y * P < X * P ↔ Y < X := Nat.mul_lt_mul_right hp
  have z1 : X * P = 0 ↔ X = 0 := by rw [Nat.mul_eq_zero]; omega
  have z2 : Y * P = 0 ↔ Y = 0 := by rw [Nat.mul_eq_zero]; omega
  rw [Option.some.injEq, Int.compare_eq_lt]
  generalize X * P = X' at *
  generalize Y * P = Y' at *
  cases fS a <;> cases fS b <;> simp only [if_true, if_false, Bool.false_eq_true] <;> omega
end Go.Lg
