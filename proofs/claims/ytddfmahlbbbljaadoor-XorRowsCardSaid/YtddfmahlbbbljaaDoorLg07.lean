/- Law 07: leading and trailing noughts of a number. -/
import Derived.Test.YtddfmahlbbbljaaDoorLgXorP
import Derived.Test.YtddfmahlbbbljaaDoorLg01b
set_option linter.unusedVariables false
namespace Go.Lg
set_option maxRecDepth 100000
attribute [local irreducible] w64 toU64 toU8 shlU shrU shlB shrB

/-- how many bits a number has -/
def len64 (v : Nat) : Nat := if v = 0 then 0 else v.log2 + 1
theorem len_le (v n : Nat) : len64 v ≤ n ↔ v < 2 ^ n := by
  unfold len64
  split
  · rename_i h; subst h; exact ⟨fun _ => Nat.pow_pos (by omega), fun _ => Nat.zero_le _⟩
  · rename_i h; rw [← Nat.log2_lt h]; omega
theorem len_eq {a v : Nat} (h : ∀ n, a ≤ n ↔ v < 2 ^ n) : len64 v = a :=
  Nat.le_antisymm ((len_le v a).2 ((h a).1 (Nat.le_refl _))) ((h _).2 ((len_le v _).1 (Nat.le_refl _)))
theorem len_shift {v k : Nat} (h : 2 ^ k ≤ v) : len64 v = k + len64 (v / 2 ^ k) := by
  refine len_eq fun n => ?_
  rcases Nat.lt_or_ge n k with hn | hn
  · have : 2 ^ n ≤ 2 ^ k := Nat.pow_le_pow_right (by omega) (by omega)
    constructor <;> intro h' <;> omega
  · have e : n = k + (n - k) := by omega
    rw [e, Nat.add_le_add_iff_left, len_le, Nat.div_lt_iff_lt_mul (Nat.pow_pos (by omega)), ← Nat.pow_add, Nat.add_comm (n - k) k]
theorem len64_le {v : Nat} (h : v < 2 ^ 64) : len64 v ≤ 64 := (len_le v 64).2 h
theorem lit_at {x : Nat} (h : x < 256) : ∃ t : UInt8, lit_c95356610d[x]? = some t ∧ t.toNat = len64 x := by
  have key : (List.range 256).all (fun x => match lit_c95356610d[x]? with
    | some t => decide (x < 2 ^ t.toNat) && decide (2 ^ t.toNat ≤ 2 * x + 1)
    | none => false) = true := by decide
  have hx := List.all_eq_true.1 key x (List.mem_range.2 h)
  cases ht : lit_c95356610d[x]? with
  | none => rw [ht] at hx; cases hx
  | some t =>
    rw [ht] at hx
    simp only [Bool.and_eq_true, decide_eq_true_eq] at hx
    refine ⟨t, rfl, (len_eq fun n => ?_).symm⟩
    constructor
    · intro hn; exact Nat.lt_of_lt_of_le hx.1 (Nat.pow_le_pow_right (by omega) hn)
    · intro hn
      rcases Nat.lt_or_ge n t.toNat with h1 | h1
      · have : 2 ^ (n + 1) ≤ 2 ^ t.toNat := Nat.pow_le_pow_right (by omega) h1
        rw [Nat.pow_succ] at this; omega
      · exact h1
theorem len64_eq (a : UInt64) : math_bits_Len64 a = some ((len64 a.toNat : Nat) : Int) := by
  have ha := UInt64.toNat_lt a
  unfold math_bits_Len64
  have step1 : (bif decide (4294967296 ≤ a) then lett (shrU a ((32 : UInt64).toNat)) fun x16 => some (x16, (32 : Int)) else some (a, 0)) = some (UInt64.ofNat (if 2 ^ 32 ≤ a.toNat then a.toNat / 2 ^ 32 else a.toNat), ((if 2 ^ 32 ≤ a.toNat then 32 else 0 : Nat) : Int)) := by
    by_cases h : 2 ^ 32 ≤ a.toNat
    · rw [bifTd (show (4294967296 : UInt64) ≤ a from h), lett_eq, if_pos h, if_pos h]
      congr 2
      apply UInt64.toNat_inj.1
      rw [show (32 : UInt64).toNat = 32 from rfl, shrU_nat a (by omega), u64_ofNat (by omega)]
    · rw [bifFd (show ¬ (4294967296 : UInt64) ≤ a from h), if_neg h, if_neg h, UInt64.ofNat_toNat]; rfl
  rw [step1, bind_some]
  dsimp only
  generalize hb : (if 2 ^ 32 ≤ a.toNat then a.toNat / 2 ^ 32 else a.toNat) = b
  generalize hm : (if 2 ^ 32 ≤ a.toNat then 32 else 0 : Nat) = m
  have hb1 : b < 2 ^ 32 ∧ len64 a.toNat = m + len64 b ∧ m ≤ 32 := by
    subst hb; subst hm
    split
    · rename_i h; exact ⟨by omega, len_shift h, by omega⟩
    · exact ⟨by omega, by omega, by omega⟩
  have step2 : (bif decide (65536 ≤ UInt64.ofNat b) then lett (shrU (UInt64.ofNat b) ((16 : UInt64).toNat)) fun x22 => lett (w64 ((m : Int) + 16)) fun nv23 => some (x22, nv23) else some (UInt64.ofNat b, (m : Int))) = some (UInt64.ofNat (if 2 ^ 16 ≤ b then b / 2 ^ 16 else b), ((if 2 ^ 16 ≤ b then m + 16 else m : Nat) : Int)) := by
    have e : (UInt64.ofNat b).toNat = b := u64_ofNat (by omega)
    by_cases h : 2 ^ 16 ≤ b
    · rw [bifTd (show (65536 : UInt64) ≤ UInt64.ofNat b from by show 65536 ≤ (UInt64.ofNat b).toNat; omega), lett_eq, lett_eq, if_pos h, if_pos h, show w64 ((m : Int) + 16) = ((m + 16 : Nat) : Int) by rw [w64_id (by omega) (by omega)]; omega]
      congr 2
      apply UInt64.toNat_inj.1
      rw [show (16 : UInt64).toNat = 16 from rfl, shrU_nat _ (by omega), e, u64_ofNat (by omega)]
    · rw [bifFd (show ¬ (65536 : UInt64) ≤ UInt64.ofNat b from by show ¬ 65536 ≤ (UInt64.ofNat b).toNat; omega), if_neg h, if_neg h]
  rw [step2, bind_some]
  dsimp only
  generalize hc : (if 2 ^ 16 ≤ b then b / 2 ^ 16 else b) = c
  generalize hn : (if 2 ^ 16 ≤ b then m + 16 else m : Nat) = n
  have hc1 : c < 2 ^ 16 ∧ m + len64 b = n + len64 c ∧ n ≤ 48 := by
    subst hc; subst hn
    split
    · rename_i h; exact ⟨by omega, by have := len_shift h; omega, by omega⟩
    · exact ⟨by omega, by omega, by omega⟩
  have step3 : (bif decide (256 ≤ UInt64.ofNat c) then lett (shrU (UInt64.ofNat c) ((8 : UInt64).toNat)) fun x29 => lett (w64 ((n : Int) + 8)) fun nv30 => some (x29, nv30) else some (UInt64.ofNat c, (n : Int))) = some (UInt64.ofNat (if 2 ^ 8 ≤ c then c / 2 ^ 8 else c), ((if 2 ^ 8 ≤ c then n + 8 else n : Nat) : Int)) := by
    have e : (UInt64.ofNat c).toNat = c := u64_ofNat (by omega)
    by_cases h : 2 ^ 8 ≤ c
    · rw [bifTd (show (256 : UInt64) ≤ UInt64.ofNat c from by show 256 ≤ (UInt64.ofNat c).toNat; omega), lett_eq, lett_eq, if_pos h, if_pos h, show w64 ((n : Int) + 8) = ((n + 8 : Nat) : Int) by rw [w64_id (by omega) (by omega)]; omega]
      congr 2
      apply UInt64.toNat_inj.1
      rw [show (8 : UInt64).toNat = 8 from rfl, shrU_nat _ (by omega), e, u64_ofNat (by omega)]
    · rw [bifFd (show ¬ (256 : UInt64) ≤ UInt64.ofNat c from by show ¬ 256 ≤ (UInt64.ofNat c).toNat; omega), if_neg h, if_neg h]
  rw [step3, bind_some]
  dsimp only
  generalize hd : (if 2 ^ 8 ≤ c then c / 2 ^ 8 else c) = d
  generalize hk : (if 2 ^ 8 ≤ c then n + 8 else n : Nat) = k
  have hd1 : d < 2 ^ 8 ∧ n + len64 c = k + len64 d ∧ k ≤ 56 := by
    subst hd; subst hk
    split
    · rename_i h; exact ⟨by omega, by have := len_shift h; omega, by omega⟩
    · exact ⟨by omega, by omega, by omega⟩
  obtain ⟨t, ht, ht2⟩ := lit_at (x := d) (by omega)
  have e : ((UInt64.ofNat d).toUInt8.toNat : Int) = (d : Int) := by
    rw [UInt64.toNat_toUInt8, u64_ofNat (by omega)]; omega
  have hi : idx lit_c95356610d (d : Int) = some t := by unfold idx; rw [if_pos (Int.natCast_nonneg _), Int.toNat_natCast]; exact ht
  have hl8 : len64 d ≤ 8 := (len_le d 8).2 hd1.1
  rw [e, hi, bind_some, lett_eq, ht2, w64_addN (by omega)]
  congr 2
  omega
def lz (v : Nat) : Nat := 64 - len64 v
theorem lz_ge {v n : Nat} (hn : n ≤ 64) (hv : v < 2 ^ 64) : n ≤ lz v ↔ v < 2 ^ (64 - n) := by
  unfold lz
  rw [← len_le]
  have := len64_le hv
  omega
theorem lz_le (v : Nat) : lz v ≤ 64 := by unfold lz; omega
theorem lz_eq (a : UInt64) : math_bits_LeadingZeros64 a = some ((lz a.toNat : Nat) : Int) := by
  unfold math_bits_LeadingZeros64 lz
  have := len64_le (UInt64.toNat_lt a)
  rw [len64_eq, bind_some, lett_eq, show (64 : Int) - (len64 a.toNat : Nat) = ((64 : Nat) : Int) - ((len64 a.toNat : Nat) : Int) from rfl, w64_subN (by omega) (by omega)]
/-- how many unset bits stand below -/
def tzF : Nat → Nat → Nat
  | 0, _ => 0
  | f + 1, v => if v % 2 = 1 then 0 else 1 + tzF f (v / 2)
def tz (v : Nat) : Nat := tzF 64 v
theorem tzF_ge : ∀ (f v n : Nat), n ≤ f → (n ≤ tzF f v ↔ 2 ^ n ∣ v)
  | 0, v, n, h => by
    have : n = 0 := by omega
    subst this; simp [tzF]
  | f + 1, v, 0, h => by simp
  | f + 1, v, n + 1, h => by
    unfold tzF
    split
    · rename_i h1
      constructor
      · intro h2; omega
      · intro h2
        have : 2 ∣ v := Nat.dvd_trans ⟨2 ^ n, by rw [Nat.pow_succ, Nat.mul_comm]⟩ h2
        omega
    · rename_i h1
      have ih := tzF_ge f (v / 2) n (by omega)
      have h2 : v = 2 * (v / 2) := by omega
      rw [show n + 1 ≤ 1 + tzF f (v / 2) ↔ n ≤ tzF f (v / 2) by omega, ih]
      conv => rhs; rw [h2, Nat.pow_succ, Nat.mul_comm]
      rw [Nat.mul_dvd_mul_iff_left (by omega)]
theorem tzF_le : ∀ f v, tzF f v ≤ f
  | 0, v => Nat.le_refl _
  | f + 1, v => by unfold tzF; have := tzF_le f (v / 2); split <;> omega
theorem tz_le (v : Nat) : tz v ≤ 64 := tzF_le 64 v
theorem tz_ge {v n : Nat} (hn : n ≤ 64) : n ≤ tz v ↔ 2 ^ n ∣ v := tzF_ge 64 v n hn
theorem tz_lt {v : Nat} (hv : v < 2 ^ 64) (h0 : v ≠ 0) : tz v < 64 := by
  rcases Nat.lt_or_ge (tz v) 64 with h | h
  · exact h
  · obtain ⟨q, hq⟩ := (tz_ge (Nat.le_refl 64)).1 h
    cases q with
    | zero => omega
    | succ q => rw [Nat.mul_succ] at hq; omega
/-- the lowest set bit -/
theorem tz_split {v : Nat} (hv : v < 2 ^ 64) (h0 : v ≠ 0) : ∃ m, v = 2 ^ tz v * (2 * m + 1) := by
  have hlt := tz_lt hv h0
  obtain ⟨q, hq⟩ := (tz_ge (v := v) (n := tz v) (by omega)).1 (Nat.le_refl _)
  have hodd : q % 2 = 1 := by
    rcases Nat.mod_two_eq_zero_or_one q with h | h
    · exfalso
      have : tz v + 1 ≤ tz v := (tz_ge (v := v) (n := tz v + 1) (by omega)).2 ⟨q / 2, by
        conv => lhs; rw [hq]
        rw [Nat.pow_succ, Nat.mul_assoc]; congr 1; omega⟩
      omega
    · exact h
  exact ⟨q / 2, by conv => lhs; rw [hq]
                   congr 1; omega⟩
theorem and_neg {k m : Nat} (hk : k < 64) (hm : 2 ^ k * (2 * m + 1) < 2 ^ 64) : (2 ^ k * (2 * m + 1)) &&& (2 ^ 64 - 2 ^ k * (2 * m + 1)) = 2 ^ k := by
  have hp : (2 : Nat) ^ 64 = 2 ^ k * (2 * 2 ^ (63 - k)) := by
    rw [← Nat.pow_succ', ← Nat.pow_add]; congr 1; omega
  have hm2 : m < 2 ^ (63 - k) := by
    rw [hp] at hm
    have := Nat.lt_of_mul_lt_mul_left hm
    omega
  have e : 2 ^ 64 - 2 ^ k * (2 * m + 1) = 2 ^ k * (2 * (2 ^ (63 - k) - (m + 1)) + 1) := by
    rw [hp, ← Nat.mul_sub]; congr 1; omega
  rw [e]
  apply Nat.eq_of_testBit_eq
  intro i
  simp only [Nat.testBit_and, Nat.testBit_two_pow_mul, Nat.testBit_two_pow]
  by_cases hi : k ≤ i
  · simp only [decide_eq_true hi, Bool.true_and]
    cases hj : i - k with
    | zero => 
      have : k = i := by omega
      simp [this]
    | succ j =>
      have : ¬ k = i := by omega
      rw [show 2 * m + 1 = 2 * m + 1 from rfl]
      simp only [Nat.testBit_succ, decide_eq_false this]
      rw [show (2 * m + 1) / 2 = m by omega, show (2 * (2 ^ (63 - k) - (m + 1)) + 1) / 2 = 2 ^ (63 - k) - (m + 1) by omega, Nat.testBit_two_pow_sub_succ hm2]
      cases m.testBit j <;> simp
  · have : ¬ k = i := by omega
    simp [hi, this]
theorem tab_at {k : Nat} (h : k < 64) : ∃ t : UInt8, gdat1[2 ^ k * 285870213051353865 % 2 ^ 64 / 2 ^ 58]? = some t ∧ t.toNat = k := by
  have key : (List.range 64).all (fun k => match gdat1[2 ^ k * 285870213051353865 % 2 ^ 64 / 2 ^ 58]? with
    | some t => decide (t.toNat = k)
    | none => false) = true := by decide
  have hx := List.all_eq_true.1 key k (List.mem_range.2 h)
  split at hx
  · rename_i t ht; exact ⟨t, ht, by simpa using hx⟩
  · cases hx
theorem tz_eq (a : UInt64) : math_bits_TrailingZeros64 a = some ((tz a.toNat : Nat) : Int) := by
  have ha := UInt64.toNat_lt a
  unfold math_bits_TrailingZeros64
  by_cases h0 : a = 0
  · rw [bifTd h0, h0]
    have : tz (0 : UInt64).toNat = 64 := by
      have := (tz_ge (v := 0) (n := 64) (Nat.le_refl _)).2 ⟨0, rfl⟩
      have := tz_le 0
      show tz 0 = 64
      omega
    rw [this]; rfl
  · have h1 : a.toNat ≠ 0 := fun e => h0 (UInt64.toNat_inj.1 e)
    rw [bifFd h0]
    have hlt := tz_lt ha h1
    obtain ⟨m, hm⟩ := tz_split ha h1
    have e1 : ((a &&& ((0 : UInt64) - a)) * 285870213051353865).toNat = 2 ^ tz a.toNat * 285870213051353865 % 2 ^ 64 := by
      rw [UInt64.toNat_mul, UInt64.toNat_and, UInt64.toNat_sub]
      have e2 : (2 ^ 64 - a.toNat + (0 : UInt64).toNat) % 2 ^ 64 = 2 ^ 64 - a.toNat := by
        rw [show (0 : UInt64).toNat = 0 from rfl]; omega
      rw [e2]
      have e3 := and_neg (k := tz a.toNat) (m := m) hlt (by rw [← hm]; exact ha)
      rw [← hm] at e3
      rw [e3]; rfl
    obtain ⟨t, ht, ht2⟩ := tab_at hlt
    have e4 : (shrU ((a &&& ((0 : UInt64) - a)) * 285870213051353865) ((58 : UInt64).toNat)).toNat = 2 ^ tz a.toNat * 285870213051353865 % 2 ^ 64 / 2 ^ 58 := by
      rw [show (58 : UInt64).toNat = 58 from rfl, shrU_nat _ (by omega), e1]
    rw [e4]
    have hi : idx gdat1 ((2 ^ tz a.toNat * 285870213051353865 % 2 ^ 64 / 2 ^ 58 : Nat) : Int) = some t := by unfold idx; rw [if_pos (Int.natCast_nonneg _), Int.toNat_natCast]; exact ht
    rw [hi, bind_some, lett_eq, ht2]
end Go.Lg
