/- Lemmas about the given model and about plain data, which the rows stand on: no statement of the program by itself. -/
import Derived.Test.YtdpokdaeekanjaaRkLg08
set_option linter.unusedVariables false
namespace Go.Lg
attribute [local irreducible] w64 toU64 toU8 shlU shrU shlB shrB
theorem su_nil : su [] = 0 := rfl
theorem su_take_mono (l : List UInt64) {a b : Nat} (h : a ≤ b) : su (l.take a) ≤ su (l.take b) := by
  have := su_take_le (l.take b) a
  rwa [List.take_take, Nat.min_eq_left h] at this
theorem su_take_succ {l : List UInt64} {i : Nat} (h : i < l.length) : su (l.take (i + 1)) = su (l.take i) + (l[i]).toNat := by rw [take_snoc h, su_snoc]
theorem su_all (l : List UInt64) {k : Nat} (h : l.length ≤ k) : su (l.take k) = su l := by rw [List.take_of_length_le h]
/-- lists that sum up alike are alike -/
theorem su_ext {l m : List UInt64} (hl : l.length = m.length) (h : ∀ j, su (l.take j) = su (m.take j)) : l = m := by
  apply List.ext_getElem hl
  intro i h1 h2
  apply UInt64.toNat_inj.1
  have a := su_take_succ h1
  have b := su_take_succ h2
  have c := h i
  have d := h (i + 1)
  omega
/-- more coarsely, by P: t is s with each P buckets one -/
structure Dn (P : Int) (s t : api_Side) : Prop where
  o : t.Offset = s.Offset / P
  l : (t.Counts.length : Int) = (s.Offset + s.Counts.length - 1) / P - s.Offset / P + 1
  su : ∀ j : Nat, su (t.Counts.take j) = su (s.Counts.take (P * (t.Offset + j) - s.Offset).toNat)
theorem Dn.inj {P : Int} {s t u : api_Side} (h : Dn P s t) (k : Dn P s u) : t = u := by
  have ho : t.Offset = u.Offset := by rw [h.o, k.o]
  have hl : t.Counts.length = u.Counts.length := by have := h.l; have := k.l; omega
  have hc : t.Counts = u.Counts := su_ext hl fun j => by rw [h.su, k.su, ho]
  cases t; cases u; simp only at ho hc; subst ho; subst hc; rfl
/-- from what holds of the places alone -/
theorem Dn.of {P : Int} {s t : api_Side} (hP : 0 < P) (o : t.Offset = s.Offset / P) (l : (t.Counts.length : Int) = (s.Offset + s.Counts.length - 1) / P - s.Offset / P + 1)
    (h : ∀ j : Nat, j ≤ t.Counts.length → Lg.su (t.Counts.take j) = Lg.su (s.Counts.take (P * (t.Offset + j) - s.Offset).toNat)) : Dn P s t := by
  refine ⟨o, l, fun j => ?_⟩
  by_cases hj : j ≤ t.Counts.length
  · exact h j hj
  · have hend : ∀ j : Nat, t.Counts.length ≤ j → s.Counts.length ≤ (P * (t.Offset + j) - s.Offset).toNat := by
      intro j hj
      have h1 : P * (t.Offset + j) ≥ P * ((s.Offset + s.Counts.length - 1) / P + 1) := Int.mul_le_mul_of_nonneg_left (by omega) (by omega)
      have h2 : s.Offset + s.Counts.length - 1 < P * ((s.Offset + s.Counts.length - 1) / P + 1) := by
        have h3 := Int.mul_ediv_add_emod (s.Offset + s.Counts.length - 1) P
        have h4 := Int.emod_lt_of_pos (s.Offset + s.Counts.length - 1) hP
        rw [Int.mul_add, Int.mul_one]; omega
      omega
    have h1 := h t.Counts.length (Nat.le_refl _)
    rw [su_all _ (hend _ (Nat.le_refl _)), List.take_length] at h1
    rw [su_all _ (hend j (by omega)), su_all _ (by omega), h1]
theorem Dn.id (s : api_Side) : Dn 1 s s := by
  refine ⟨by simp, by rw [Int.ediv_one, Int.ediv_one]; omega, fun j => ?_⟩
  congr 2; omega
theorem Dn.tot {P : Int} {s t : api_Side} (hP : 0 < P) (h : Dn P s t) (hn : 0 < s.Counts.length) : Lg.su t.Counts = Lg.su s.Counts := by
  have h1 := h.su t.Counts.length
  rw [List.take_length] at h1
  rw [h1, su_all]
  have hl := h.l
  have ho := h.o
  have h2 : s.Offset + s.Counts.length - 1 < P * ((s.Offset + s.Counts.length - 1) / P + 1) := by
    have h3 := Int.mul_ediv_add_emod (s.Offset + s.Counts.length - 1) P
    have h4 := Int.emod_lt_of_pos (s.Offset + s.Counts.length - 1) hP
    rw [Int.mul_add, Int.mul_one]; omega
  have e : t.Offset + (t.Counts.length : Int) = (s.Offset + s.Counts.length - 1) / P + 1 := by omega
  rw [e]; omega
/-! ### the program's way -/
theorem p2 (n : Nat) : (0 : Int) < 2 ^ n := Int.pow_pos (by omega)
theorem div_bd {a : Int} {P : Int} (hP : 0 < P) {b : Int} (hb : 0 ≤ b) (h : -b ≤ a ∧ a ≤ b) : -b ≤ a / P ∧ a / P ≤ b := by
  constructor
  · have : -b ≤ a / P ↔ -b * P ≤ a := Int.le_ediv_iff_mul_le hP
    rw [this]
    have : b ≤ b * P := by
      have := Int.mul_le_mul_of_nonneg_left (show (1 : Int) ≤ P by omega) hb
      omega
    rw [Int.neg_mul]; omega
  · have h1 : a / P ≤ b ↔ a / P < b + 1 := by omega
    rw [h1, Int.ediv_lt_iff_lt_mul hP]
    have := Int.mul_le_mul_of_nonneg_left (show (1 : Int) ≤ P by omega) (show 0 ≤ b + 1 by omega)
    omega
theorem ediv_mono {a b P : Int} (hP : 0 < P) (h : a ≤ b) : a / P ≤ b / P := Int.ediv_le_ediv hP h
end Go.Lg
