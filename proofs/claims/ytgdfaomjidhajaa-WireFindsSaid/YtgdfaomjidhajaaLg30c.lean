/- Lemmas about the given model and about plain data, which the rows stand on: no statement of the program by itself. -/
import Derived.Test.YtgdfaomjidhajaaLg30b
set_option linter.unusedVariables false
namespace Go.Lg
attribute [local irreducible] w64 toU64 toU8 shlU shrU shlB shrB

/-! ### a number has one form -/
theorem leV_one (x : UInt8) : leV [x] = x.toNat % 128 := by simp [leV]
theorem canon : ∀ (l : List UInt8) (h : cnt l < l.length), (0 < cnt l → l[cnt l] ≠ 0) → varL (leV (l.take (cnt l + 1))) = l.take (cnt l + 1)
  | [], h, _ => by simp at h
  | x :: l, h, hz => by
    have hx8 := u8_lt' x
    by_cases hx : 128 ≤ x.toNat
    · have e : cnt (x :: l) = cnt l + 1 := by rw [cnt, if_pos hx]; omega
      simp only [e] at h hz ⊢
      have hl : cnt l < l.length := by simpa using h
      have hz' : l[cnt l] ≠ 0 := by simpa using hz (by omega)
      have ih := canon l hl (fun _ => hz')
      have hV : leV (l.take (cnt l + 1)) ≠ 0 := by
        intro e0
        rw [e0, varL_lt (by omega)] at ih
        have hlen := congrArg List.length ih
        rw [List.length_take] at hlen
        simp only [List.length_singleton] at hlen
        have c0 : cnt l = 0 := by omega
        rw [take_snoc8 hl] at ih
        simp only [c0, List.take_zero, List.nil_append] at ih
        apply hz'
        simp only [c0]
        exact (List.cons.inj ih).1.symm
      rw [List.take_succ_cons, leV, varL_ge (by omega)]
      rw [show (x.toNat % 128 + 128 * leV (l.take (cnt l + 1))) / 128 = leV (l.take (cnt l + 1)) by omega, ih]
      congr 1
      apply UInt8.toNat_inj.1
      rw [UInt8.toNat_ofNat']; omega
    · have e : cnt (x :: l) = 0 := by rw [cnt, if_neg hx]
      simp only [e]
      rw [List.take_succ_cons, List.take_zero, leV_one, varL_lt (by omega)]
      congr 1
      apply UInt8.toNat_inj.1
      rw [UInt8.toNat_ofNat']; omega
theorem gv_ok {l : List UInt8} (h : (gv l).2.2 = 0) : ∃ n : Nat, (gv l).2.1 = n ∧ 1 ≤ n ∧ n ≤ l.length ∧ l.take n = varL (gv l).1.toNat := by
  have hcl := cnt_le l
  unfold gv at h ⊢
  by_cases h1 : 10 ≤ cnt l
  · rw [if_pos h1] at h; exact absurd h (by decide)
  rw [if_neg h1] at h ⊢
  by_cases h2 : cnt l = l.length
  · rw [if_pos h2] at h; exact absurd h (by decide)
  rw [if_neg h2] at h ⊢
  by_cases h3 : (cnt l = 9 ∧ 1 < (l.getD (cnt l) 0).toNat) ∨ (0 < cnt l ∧ l.getD (cnt l) 0 = 0)
  · rw [if_pos h3] at h; exact absurd h (by decide)
  rw [if_neg h3]
  have hlt : cnt l < l.length := by omega
  rw [getD8 hlt] at h3
  refine ⟨cnt l + 1, rfl, by omega, by omega, ?_⟩
  have hc := canon l hlt (fun h0 e => h3 (.inr ⟨h0, e⟩))
  have hb : leV (l.take (cnt l + 1)) < 18446744073709551616 := by
    have h8 := leV_lt (l.take (cnt l + 1))
    have hlen : (l.take (cnt l + 1)).length = cnt l + 1 := by rw [List.length_take]; omega
    by_cases e9 : cnt l = 9
    · have h7 := leV_lt (l.take (cnt l))
      have hl1 : ¬ 1 < (l[cnt l]).toNat := fun e => h3 (.inl ⟨e9, e⟩)
      rw [List.length_take, Nat.min_eq_left hcl] at h7
      rw [take_snoc8 hlt, leV_snoc, List.length_take, Nat.min_eq_left hcl]
      generalize l[cnt l] = y at hl1 ⊢
      rw [e9] at h7 ⊢
      have p9 : (128 : Nat) ^ 9 = 9223372036854775808 := by decide
      rw [p9] at h7 ⊢
      omega
    · rw [hlen] at h8
      have : (128 : Nat) ^ (cnt l + 1) ≤ 128 ^ 9 := Nat.pow_le_pow_right (by omega) (by omega)
      have p9 : (128 : Nat) ^ 9 = 9223372036854775808 := by decide
      omega
  dsimp only
  rw [UInt64.toNat_ofNat', Nat.mod_eq_of_lt hb, hc]
theorem varL_facts (r : List UInt8) : ∀ (n v : Nat), v ≤ n → cnt (varL v ++ r) + 1 = (varL v).length ∧ leV (varL v) = v ∧ (1 < (varL v).length → (varL v).getD ((varL v).length - 1) 0 ≠ 0) := by
  intro n
  induction n using Nat.strongRecOn with
  | _ n ih =>
    intro v hv
    by_cases h : v < 128
    · rw [varL_lt h]
      have e : (UInt8.ofNat v).toNat = v := by rw [UInt8.toNat_ofNat']; omega
      refine ⟨?_, ?_, fun h => by simp at h⟩
      · rw [List.singleton_append, cnt, e, if_neg (by omega)]; rfl
      · rw [leV_one, e]; omega
    · obtain ⟨i1, i2, i3⟩ := ih (v / 128) (by omega) (v / 128) (Nat.le_refl _)
      have hp := varL_pos (v / 128)
      have e : (UInt8.ofNat (128 + v % 128)).toNat = 128 + v % 128 := by rw [UInt8.toNat_ofNat']; omega
      rw [varL_ge h]
      refine ⟨?_, ?_, fun _ => ?_⟩
      · rw [List.cons_append, cnt, e, if_pos (by omega), List.length_cons]; omega
      · rw [leV, e, i2]; omega
      · rw [List.length_cons, Nat.add_sub_cancel]
        obtain ⟨q, hq⟩ : ∃ q, (varL (v / 128)).length = q + 1 := ⟨(varL (v / 128)).length - 1, by omega⟩
        rw [hq, List.getD_cons_succ]
        by_cases h1 : 1 < (varL (v / 128)).length
        · have := i3 h1
          rwa [hq, Nat.add_sub_cancel] at this
        · have q0 : q = 0 := by omega
          have hs : v / 128 < 128 := by
            apply Decidable.byContradiction
            intro hge
            rw [varL_ge hge, List.length_cons] at h1
            have := varL_pos (v / 128 / 128)
            omega
          rw [q0, varL_lt hs]
          intro e0
          have e1 : (UInt8.ofNat (v / 128)).toNat = 0 := by
            have e2 : UInt8.ofNat (v / 128) = 0 := by simpa using e0
            rw [e2]; rfl
          rw [UInt8.toNat_ofNat'] at e1
          omega
theorem gv_var {v : Nat} (hv : v < 18446744073709551616) (r : List UInt8) : gv (varL v ++ r) = (UInt64.ofNat v, ((varL v).length : Int), 0) := by
  obtain ⟨h1, h2, h3⟩ := varL_facts r v v (Nat.le_refl _)
  have h10 := varL_len10 hv
  have hp := varL_pos v
  have hc : cnt (varL v ++ r) = (varL v).length - 1 := by omega
  have hg : (varL v ++ r).getD ((varL v).length - 1) 0 = (varL v).getD ((varL v).length - 1) 0 := by
    rw [List.getD_eq_getElem?_getD, List.getElem?_append_left (by omega), ← List.getD_eq_getElem?_getD]
  unfold gv
  rw [hc, if_neg (by omega), if_neg (by rw [List.length_append]; omega), hg, if_neg]
  · rw [Nat.sub_add_cancel hp, List.take_left, h2]
  · intro e
    rcases e with ⟨e1, e2⟩ | ⟨e1, e2⟩
    · have hlen : (varL v).length = 10 := by omega
      rw [hlen, getD8 (by omega)] at e2
      have hs := take_snoc8 (l := varL v) (i := 9) (by omega)
      rw [List.take_of_length_le (by omega)] at hs
      have := congrArg leV hs
      rw [h2, leV_snoc] at this
      have hat := cnt_at (varL v ++ r) (by rw [hc, List.length_append]; omega)
      simp only [hc, hlen] at hat
      rw [List.getElem_append_left (by omega)] at hat
      have e2' : 1 < ((varL v)[9]'(by omega)).toNat := e2
      have hat' : ((varL v)[9]'(by omega)).toNat < 128 := hat
      clear e2 hat hs
      generalize (varL v)[9]'(by omega) = y at *
      rw [List.length_take, hlen] at this
      have p9 : (128 : Nat) ^ (min 9 10) = 9223372036854775808 := by decide
      rw [p9] at this
      omega
    · exact h3 (by omega) e2

/-! ### eight bytes -/
def le8 : List UInt8 → Nat
  | [] => 0
  | x :: l => x.toNat + 256 * le8 l
theorem le8_snoc : ∀ (l : List UInt8) (x : UInt8), le8 (l ++ [x]) = le8 l + 256 ^ l.length * x.toNat
  | [], x => by simp [le8]
  | y :: l, x => by
    rw [List.cons_append, le8, le8, le8_snoc l x, List.length_cons, Nat.pow_succ, Nat.mul_add, Nat.mul_comm (256 ^ l.length) 256, Nat.mul_assoc]; omega
theorem le8_lt : ∀ l : List UInt8, le8 l < 256 ^ l.length
  | [] => by simp [le8]
  | x :: l => by have := le8_lt l; have := u8_lt' x; rw [le8, List.length_cons, Nat.pow_succ]; omega
def eightL (v : Nat) : List UInt8 := (List.range 8).map fun (i : Nat) => UInt8.ofNat (v / 256 ^ i)
theorem le8_div : ∀ (l : List UInt8) (i : Nat) (h : i < l.length), le8 l / 256 ^ i % 256 = (l[i]).toNat
  | [], i, h => by simp at h
  | x :: l, i, h => by
    have hx := u8_lt' x
    cases i with
    | zero => rw [le8]; simp only [Nat.pow_zero, Nat.div_one, List.getElem_cons_zero]; omega
    | succ i =>
      have := le8_div l i (by simpa using h)
      rw [le8, Nat.pow_succ, Nat.mul_comm (256 ^ i), ← Nat.div_div_eq_div_mul, show (x.toNat + 256 * le8 l) / 256 = le8 l by omega, this]; rfl
theorem eight_le {l : List UInt8} (h : l.length = 8) : eightL (le8 l) = l := by
  apply List.ext_getElem (by simp [eightL, h])
  intro i h1 h2
  have := le8_div l i h2
  apply UInt8.toNat_inj.1
  simp only [eightL, List.getElem_map, List.getElem_range]
  rw [UInt8.toNat_ofNat', this]
end Go.Lg
