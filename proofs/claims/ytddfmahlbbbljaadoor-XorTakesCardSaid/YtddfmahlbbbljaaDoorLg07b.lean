/- Law 07: the document's windows, by numbers. -/
import Derived.Test.YtddfmahlbbbljaaDoorLg07
set_option linter.unusedVariables false
namespace Go.Lg
attribute [local irreducible] w64 toU64 toU8 shlU shrU shlB shrB

theorem rowN_get (v : Nat) : ∀ (n i : Nat), i < n → (rowN v n)[i]? = some ((v / 2 ^ (n - 1 - i) % 2 : Nat) : Int)
  | 0, i, h => by omega
  | n + 1, 0, h => by simp [rowN]
  | n + 1, i + 1, h => by
    rw [rowN, List.getElem?_cons_succ, rowN_get v n i (by omega)]
    congr 5; omega
theorem rowN_idx (v : Nat) {n i : Nat} (h : i < n) : idx (rowN v n) (i : Int) = some ((v / 2 ^ (n - 1 - i) % 2 : Nat) : Int) := by
  unfold idx; rw [if_pos (Int.natCast_nonneg _), Int.toNat_natCast]; exact rowN_get v n i h
theorem rowN_part (v : Nat) {n a k : Nat} (h : a + k ≤ n) : ((rowN v n).take (a + k)).drop a = rowN (v / 2 ^ (n - a - k)) k := by
  have hl : (((rowN v n).take (a + k)).drop a).length = k := by rw [List.length_drop, List.length_take, rowN_len]; omega
  have := rowN_of (l := ((rowN v n).take (a + k)).drop a) (((rowN_bit v n).take _).drop _) (v := v / 2 ^ (n - a - k)) (by
    rw [hl, dv_part (rowN_bit v n) (by rw [rowN_len]; exact h), rowN_len, rowN_dv, mod_div_mod _ _ _ _ (by omega)])
  rw [hl] at this; exact this
theorem rowN_slc (v : Nat) {n a k : Nat} (h : a + k ≤ n) : slc (rowN v n) (a : Int) ((a + k : Nat) : Int) = some (rowN (v / 2 ^ (n - a - k)) k) := by
  rw [slc_nat (by omega) (by rw [rowN_len]; exact h), rowN_part v h]

/-- all set bits stand in a window -/
def hol (f s d : Nat) : Bool := decide (0 < s ∧ d < 2 ^ (64 - f) ∧ 2 ^ (64 - f - s) ∣ d)
theorem lt_bits {d n : Nat} (hd : d < 2 ^ 64) : d < 2 ^ n ↔ ∀ j, n ≤ j → j < 64 → d.testBit j = false := by
  constructor
  · intro h j hj _; exact Nat.testBit_lt_two_pow (Nat.lt_of_lt_of_le h (Nat.pow_le_pow_right (by omega) hj))
  · intro h
    refine Nat.lt_pow_two_of_testBit d fun j hj => ?_
    rcases Nat.lt_or_ge j 64 with h1 | h1
    · exact h j hj h1
    · exact Nat.testBit_lt_two_pow (Nat.lt_of_lt_of_le hd (Nat.pow_le_pow_right (by omega) h1))
theorem dvd_bits {d n : Nat} : 2 ^ n ∣ d ↔ ∀ j, j < n → d.testBit j = false := by
  rw [Nat.dvd_iff_mod_eq_zero]
  constructor
  · intro h j hj
    have := Nat.testBit_mod_two_pow d n j
    rw [h] at this
    simpa [hj] using this.symm
  · intro h
    apply Nat.eq_of_testBit_eq
    intro j
    rw [Nat.testBit_mod_two_pow]
    by_cases hj : j < n
    · simp [hj, h j hj]
    · simp [hj]
theorem bit_at (d j : Nat) : (((d / 2 ^ j % 2 : Nat) : Int) = 1) ↔ d.testBit j = true := by
  rw [Nat.testBit_eq_decide_div_mod_eq, decide_eq_true_eq]; omega
theorem hol_bits {f s d : Nat} (hd : d < 2 ^ 64) (hf : f + s ≤ 64) : (d < 2 ^ (64 - f) ∧ 2 ^ (64 - f - s) ∣ d) ↔ ∀ i, i < 64 → d.testBit (63 - i) = true → f ≤ i ∧ i < f + s := by
  rw [lt_bits hd, dvd_bits]
  constructor
  · rintro ⟨h1, h2⟩ i hi ht
    constructor
    · refine Nat.le_of_not_lt fun h => ?_
      have := h1 (63 - i) (by omega) (by omega)
      rw [this] at ht; cases ht
    · refine Nat.lt_of_not_le fun h => ?_
      have := h2 (63 - i) (by omega)
      rw [this] at ht; cases ht
  · intro h
    constructor
    · intro j hj hj2
      cases ht : d.testBit j with
      | false => rfl
      | true =>
        have := h (63 - j) (by omega) (by rw [show 63 - (63 - j) = j by omega]; exact ht)
        omega
    · intro j hj
      cases ht : d.testBit j with
      | false => rfl
      | true =>
        have := h (63 - j) (by omega) (by rw [show 63 - (63 - j) = j by omega]; exact ht)
        omega
open Classical in
theorem in_loop {f s d : Nat} (hf : f + s ≤ 64) : ∀ (m i : Nat), i + m = 64 → loop (ref07_in_lp1 (rowN d 64) ⟨(f : Int), (s : Int)⟩) (i : Int) = some (if ∀ j, i ≤ j → j < 64 → d.testBit (63 - j) = true → f ≤ j ∧ j < f + s then .go () else .out false)
  | 0, i, h => by
    have : i = 64 := by omega
    subst this
    rw [loop_brk (b := ()), if_pos (fun j h1 h2 => by omega)]
    unfold ref07_in_lp1
    rw [bifFd (by omega)]
  | m + 1, i, h => by
    have ih := in_loop (d := d) hf m (i + 1) (by omega)
    have hi := rowN_idx d (n := 64) (i := i) (by omega)
    rw [show 64 - 1 - i = 63 - i by omega] at hi
    have hw : w64 ((f : Int) + (s : Int)) = ((f + s : Nat) : Int) := w64_addN (by omega)
    by_cases hb : d.testBit (63 - i) = true ∧ ¬ (f ≤ i ∧ i < f + s)
    · rw [loop_out (r := false), if_neg (fun hh => hb.2 (hh i (by omega) (by omega) hb.1))]
      unfold ref07_in_lp1
      rw [bifTd (by omega), hi, bind_some, hw, bifT, outr_some]
      have h1 := (bit_at d (63 - i)).2 hb.1
      simp only [decide_eq_true h1, Bool.true_and, Bool.or_eq_true, decide_eq_true_eq]
      omega
    · rw [loop_next (s' := ((i + 1 : Nat) : Int)), ih]
      · congr 1
        apply ite_congr _ (fun _ => rfl) (fun _ => rfl)
        apply propext
        constructor
        · intro hh j h1 h2 h3
          by_cases e : i = j
          · subst e
            refine Classical.byContradiction fun hn => hb ⟨h3, hn⟩
          · exact hh j (by omega) h2 h3
        · intro hh j h1 h2 h3; exact hh j (by omega) h2 h3
      · unfold ref07_in_lp1
        rw [bifTd (by omega), hi, bind_some, hw, bifF, lett_eq, w64_succ (by omega)]
        rw [Bool.and_eq_false_iff]
        by_cases h1 : d.testBit (63 - i) = true
        · right
          rw [Bool.or_eq_false_iff, decide_eq_false_iff_not, decide_eq_false_iff_not]
          have : f ≤ i ∧ i < f + s := Classical.byContradiction fun hn => hb ⟨h1, hn⟩
          dsimp only
          omega
        · left
          rw [decide_eq_false_iff_not, bit_at]; exact h1
theorem in_eq {f s d : Nat} (hd : d < 2 ^ 64) (hf : f + s ≤ 64) : ref07_in (rowN d 64) ⟨(f : Int), (s : Int)⟩ = some (hol f s d) := by
  unfold ref07_in hol
  rw [show (0 : Int) = ((0 : Nat) : Int) from rfl, in_loop hf 64 0 rfl]
  by_cases h : d < 2 ^ (64 - f) ∧ 2 ^ (64 - f - s) ∣ d
  · rw [if_pos (fun j _ h2 h3 => (hol_bits hd hf).1 h j h2 h3), flow_go, lett_eq]
    dsimp only
    congr 1
    rw [decide_eq_decide]
    constructor
    · intro h1; exact ⟨by omega, h⟩
    · rintro ⟨h1, _⟩; omega
  · rw [if_neg (fun hh => h ((hol_bits hd hf).2 fun i hi ht => hh i (by omega) hi ht)), flow_out, decide_eq_false (fun ⟨_, h2⟩ => h h2)]

theorem lz_tz {d : Nat} (hd : d < 2 ^ 64) (h0 : d ≠ 0) : lz d + tz d < 64 := by
  have h1 := (lz_ge (v := d) (lz_le d) hd).1 (Nat.le_refl _)
  have h2 := Nat.le_of_dvd (by omega) ((tz_ge (v := d) (tz_le d)).1 (Nat.le_refl _))
  have h3 : 2 ^ tz d < 2 ^ (64 - lz d) := Nat.lt_of_le_of_lt h2 h1
  have := (Nat.pow_lt_pow_iff_right (a := 2) (by omega)).1 h3
  omega
def arF (d : Nat) : Nat := min (lz d) 31
def arS (d : Nat) : Nat := 64 - arF d - tz d
theorem ar_le {d : Nat} (hd : d < 2 ^ 64) (h0 : d ≠ 0) : arF d ≤ 31 ∧ 1 ≤ arS d ∧ arF d + arS d ≤ 64 ∧ 64 - arF d - arS d = tz d := by
  have := lz_tz hd h0
  unfold arS arF; omega
theorem ar_hol {d : Nat} (hd : d < 2 ^ 64) (h0 : d ≠ 0) : hol (arF d) (arS d) d = true := by
  obtain ⟨h1, h2, h3, h4⟩ := ar_le hd h0
  unfold hol
  rw [decide_eq_true_eq]
  refine ⟨h2, ?_, ?_⟩
  · refine (lz_ge (by omega) hd).1 ?_; unfold arF; omega
  · rw [h4]; exact (tz_ge (tz_le d)).1 (Nat.le_refl _)
theorem bit_zero {d i : Nat} (hi : i < 64) (h : i ≤ lz d) (hd : d < 2 ^ 64) : (((d / 2 ^ (63 - i) % 2 : Nat) : Int) = 0) ↔ i + 1 ≤ lz d := by
  have h1 := (lz_ge (v := d) (n := i) (by omega) hd).1 h
  rw [lz_ge (by omega) hd, show 64 - (i + 1) = 63 - i by omega]
  rw [show 64 - i = (63 - i) + 1 by omega, Nat.pow_succ] at h1
  have hp : 0 < 2 ^ (63 - i) := Nat.pow_pos (by omega)
  have h2 : d / 2 ^ (63 - i) < 2 := by rw [Nat.div_lt_iff_lt_mul hp]; omega
  have h3 : d / 2 ^ (63 - i) = 0 ↔ d < 2 ^ (63 - i) := by
    rw [Nat.div_eq_zero_iff]; omega
  rw [← h3]
  generalize d / 2 ^ (63 - i) = q at h2
  have : q = 0 ∨ q = 1 := by omega
  rcases this with e | e <;> subst e <;> simp
theorem around1 {d : Nat} (hd : d < 2 ^ 64) : ∀ (m i : Nat), i + m = arF d → loop (ref07_around_lp1 (rowN d 64)) (i : Int) = some (.go ((arF d : Nat) : Int))
  | 0, i, h => by
    have hi : i = arF d := by omega
    rw [loop_brk (b := (i : Int)), hi]
    unfold ref07_around_lp1
    by_cases h31 : i < 31
    · have hlz : i = lz d := by unfold arF at hi; omega
      have hb := rowN_idx d (n := 64) (i := i) (by omega)
      rw [show 64 - 1 - i = 63 - i by omega] at hb
      have : ¬ (((d / 2 ^ (63 - i) % 2 : Nat) : Int) = 0) := fun e => by
        have := (bit_zero (by omega) (by omega) hd).1 e; omega
      rw [bifTd (by omega), hb, bind_some, decide_eq_false this]; rfl
    · rw [bifFd (by omega)]; rfl
  | m + 1, i, h => by
    have ih := around1 hd m (i + 1) (by omega)
    have hi : i < lz d ∧ i < 31 := by unfold arF at h; omega
    rw [loop_next (s' := ((i + 1 : Nat) : Int)), ih]
    unfold ref07_around_lp1
    have hb := rowN_idx d (n := 64) (i := i) (by omega)
    rw [show 64 - 1 - i = 63 - i by omega] at hb
    rw [bifTd (by omega), hb, bind_some, decide_eq_true ((bit_zero (by omega) (by omega) hd).2 (by omega)), bind_some, cond_true, lett_eq, w64_succ (by omega)]
theorem bit_low {d k : Nat} (hk : k < 64) (h : k ≤ tz d) : (((d / 2 ^ k % 2 : Nat) : Int) = 0) ↔ k + 1 ≤ tz d := by
  obtain ⟨q, hq⟩ := (tz_ge (v := d) (n := k) (by omega)).1 h
  rw [tz_ge (by omega)]
  have hp : 0 < 2 ^ k := Nat.pow_pos (by omega)
  have e : d / 2 ^ k = q := by rw [hq, Nat.mul_div_cancel_left _ hp]
  rw [e]
  constructor
  · intro h1
    refine ⟨q / 2, ?_⟩
    conv => lhs; rw [hq]
    rw [Nat.pow_succ, Nat.mul_assoc]; congr 1; omega
  · rintro ⟨r, hr⟩
    rw [hq, Nat.pow_succ, Nat.mul_assoc] at hr
    have := Nat.eq_of_mul_eq_mul_left hp hr
    omega
theorem around2 {d : Nat} (hd : d < 2 ^ 64) (h0 : d ≠ 0) : ∀ (m e : Nat), e = 64 - tz d + m → e ≤ 64 → loop (ref07_around_lp2 (rowN d 64) ((arF d : Nat) : Int)) (e : Int) = some (.go ((64 - tz d : Nat) : Int))
  | 0, e, h, he => by
    have hlt := tz_lt hd h0
    have h1 := lz_tz hd h0
    have hf : arF d < 64 - tz d := by unfold arF; omega
    rw [loop_brk (b := (e : Int)), h]; · rfl
    unfold ref07_around_lp2
    have hb := rowN_idx d (n := 64) (i := e - 1) (by omega)
    rw [show 64 - 1 - (e - 1) = tz d by omega] at hb
    have : ¬ (((d / 2 ^ tz d % 2 : Nat) : Int) = 0) := fun e' => by
      have := (bit_low (by omega) (Nat.le_refl _)).1 e'; omega
    rw [bifTd (by omega), show w64 ((e : Int) - 1) = ((e - 1 : Nat) : Int) by rw [w64_id] <;> omega, hb, bind_some, decide_eq_false this]; rfl
  | m + 1, e, h, he => by
    have hlt := tz_lt hd h0
    have h1 := lz_tz hd h0
    have hf : arF d < 64 - tz d := by unfold arF; omega
    have ih := around2 hd h0 m (e - 1) (by omega) (by omega)
    have hw : w64 ((e : Int) - 1) = ((e - 1 : Nat) : Int) := by rw [w64_id] <;> omega
    rw [loop_next (s' := ((e - 1 : Nat) : Int)), ih]
    unfold ref07_around_lp2
    have hb := rowN_idx d (n := 64) (i := e - 1) (by omega)
    rw [show 64 - 1 - (e - 1) = 64 - e by omega] at hb
    rw [bifTd (by omega), hw, hb, bind_some, decide_eq_true ((bit_low (by omega) (by omega)).2 (by omega)), bind_some, cond_true, lett_eq]
theorem refAround_eq {d : Nat} (hd : d < 2 ^ 64) (h0 : d ≠ 0) : ref07_around (rowN d 64) = some ⟨((arF d : Nat) : Int), ((arS d : Nat) : Int)⟩ := by
  have h1 := lz_tz hd h0
  unfold ref07_around
  rw [show (0 : Int) = ((0 : Nat) : Int) from rfl, around1 hd (arF d) 0 (by omega), flow_go, bind_some, show (64 : Int) = ((64 : Nat) : Int) from rfl, around2 hd h0 (tz d) 64 (by have := tz_lt hd h0; omega) (by omega), flow_go, bind_some]
  have hf : arF d < 64 - tz d := by unfold arF; omega
  rw [w64_subN (by omega) (by omega)]
  congr 3
  unfold arS; omega
theorem around_eq {d : UInt64} (h0 : d.toNat ≠ 0) : xor_around d = some ⟨((arF d.toNat : Nat) : Int), ((arS d.toNat : Nat) : Int)⟩ := by
  have hd := UInt64.toNat_lt d
  obtain ⟨h1, h2, h3, h4⟩ := ar_le hd h0
  unfold xor_around
  have e : min ((lz d.toNat : Nat) : Int) 31 = ((arF d.toNat : Nat) : Int) := by unfold arF; omega
  rw [lz_eq, bind_some, e, lett_eq, tz_eq, bind_some, show w64 ((64 : Int) - ((arF d.toNat : Nat) : Int)) = ((64 - arF d.toNat : Nat) : Int) by rw [w64_id] <;> omega, w64_subN (by omega) (by omega)]
  rfl
theorem behind_eq {f s : Nat} (h : f + s ≤ 64) : xor_window_behind ⟨(f : Int), (s : Int)⟩ = some ((64 - f - s : Nat) : Int) := by
  unfold xor_window_behind
  rw [show w64 ((64 : Int) - (f : Int)) = ((64 - f : Nat) : Int) by rw [w64_id] <;> omega, w64_subN (by omega) (by omega)]; rfl
theorem holds_eq {f s : Nat} (h : f + s ≤ 64) (hz : s = 0 → f = 0) (d : UInt64) : xor_window_holds ⟨(f : Int), (s : Int)⟩ d = some (hol f s d.toNat) := by
  have hd := UInt64.toNat_lt d
  unfold xor_window_holds
  by_cases h0 : s = 0
  · have hf := hz h0
    subst h0; subst hf
    simp [hol]
  · have e : (!(decide ((f : Int) = 0) && (decide ((s : Int) = 0) && true))) = true := by
      have : ¬ (s : Int) = 0 := by omega
      simp [this, h0]
    simp only [e, cond_true, lz_eq, bind_some, tz_eq, behind_eq h]
    unfold hol
    have e1 : decide ((f : Int) ≤ ((lz d.toNat : Nat) : Int)) = decide (d.toNat < 2 ^ (64 - f)) := by
      rw [decide_eq_decide, ← lz_ge (by omega) hd]; omega
    have e2 : decide (((64 - f - s : Nat) : Int) ≤ ((tz d.toNat : Nat) : Int)) = decide (2 ^ (64 - f - s) ∣ d.toNat) := by
      rw [decide_eq_decide, ← tz_ge (by omega)]; omega
    rw [e1, e2]
    have h3 : 0 < s := by omega
    by_cases h1 : d.toNat < 2 ^ (64 - f) <;> by_cases h2 : 2 ^ (64 - f - s) ∣ d.toNat <;> simp [h1, h2, h3, bind_some]
end Go.Lg
