/- Lemmas about the given model and about plain data, which the rows stand on: no statement of the program by itself. -/
import Derived.Test.YtmjgdjaneckdaaaLg05e
set_option linter.unusedVariables false
namespace Go.Lg
open Ieee
attribute [local irreducible] w64 toU64 toU8 shlU shrU shlB shrB

theorem signed_eq (s : Bool) (m k : Nat) : signed s m k = if s then -((m * 2 ^ k : Nat) : Int) else ((m * 2 ^ k : Nat) : Int) := by
  unfold signed
  rw [Nat.shiftLeft_eq]
/-- the word of a sum of two numbers -/
theorem sum_write {s t : Bool} {W V e f : Nat} : (Datum.number s W ((e : Int) - 1075)).sum (Datum.number t V ((f : Int) - 1075)) =
    some (.number (if s = t then (if W * 2 ^ (e - min e f) + V * 2 ^ (f - min e f) = 0 then s else s) else if W * 2 ^ (e - min e f) = V * 2 ^ (f - min e f) then false else if V * 2 ^ (f - min e f) < W * 2 ^ (e - min e f) then s else t)
      (if s = t then W * 2 ^ (e - min e f) + V * 2 ^ (f - min e f) else if V * 2 ^ (f - min e f) ≤ W * 2 ^ (e - min e f) then W * 2 ^ (e - min e f) - V * 2 ^ (f - min e f) else V * 2 ^ (f - min e f) - W * 2 ^ (e - min e f)) ((min e f : Nat) - 1075)) := by
  have hb : min ((e : Int) - 1075) ((f : Int) - 1075) = ((min e f : Nat) : Int) - 1075 := by omega
  unfold Datum.sum
  simp only [hb]
  rw [show ((e : Int) - 1075 - (((min e f : Nat) : Int) - 1075)).toNat = e - min e f by omega, show ((f : Int) - 1075 - (((min e f : Nat) : Int) - 1075)).toNat = f - min e f by omega, signed_eq, signed_eq]
  generalize W * 2 ^ (e - min e f) = X
  generalize V * 2 ^ (f - min e f) = Y
  refine congrArg some ?_
  cases s <;> cases t <;> simp only [if_true, if_false, Bool.false_eq_true, reduceCtorEq, ite_self] <;> congr 1
  · by_cases h : (X : Int) + Y = 0
    · rw [if_pos h]; rfl
    · rw [if_neg h]; exact decide_eq_false (by omega)
  · by_cases h : (X : Int) + -Y = 0
    · rw [if_pos h, if_pos (by omega)]; rfl
    · rw [if_neg h, if_neg (by omega)]
      by_cases q : Y < X
      · rw [if_pos q]; exact decide_eq_false (by omega)
      · rw [if_neg q]; exact decide_eq_true (by omega)
  · split <;> omega
  · by_cases h : -(X : Int) + Y = 0
    · rw [if_pos h, if_pos (by omega)]; rfl
    · rw [if_neg h, if_neg (by omega)]
      by_cases q : Y < X
      · rw [if_pos q]; exact decide_eq_true (by omega)
      · rw [if_neg q]; exact decide_eq_false (by omega)
  · split <;> omega
  · by_cases h : -(X : Int) + -Y = 0
    · rw [if_pos h]; rfl
    · rw [if_neg h]; exact decide_eq_true (by omega)
  · omega
theorem fW_facts (n : Nat) : fW n < 9007199254740992 ∧ (1 < fX n → 4503599627370496 ≤ fW n) ∧ 1 ≤ fX n ∧ (fW n = 0 → fE n = 0 ∧ fM n = 0) := by
  have h2 := fM_lt n
  unfold fW fX
  split <;> omega
theorem fX_le {n : Nat} (h : fE n ≠ 2047) : fX n ≤ 2046 := by
  have := fE_lt n
  unfold fX
  split <;> omega
theorem nearest_zero (s : Bool) (p : Int) : double.nearest s 0 p = if s then 9223372036854775808 else 0 := by
  have hsw : double.signWeight = 9223372036854775808 := by decide
  unfold Format.nearest Format.word
  rw [if_pos rfl, hsw]
theorem word_zero {a : UInt64} (hE : fE a.toNat = 0) (hM : fM a.toNat = 0) : a = UInt64.ofNat (if fS a.toNat then 9223372036854775808 else 0) := by
  have h := UInt64.toNat_lt a
  apply UInt64.toNat_inj.1
  unfold fE fM at *
  unfold fS
  rw [UInt64.toNat_ofNat']
  by_cases q : 9223372036854775808 ≤ a.toNat
  · rw [decide_eq_true q, if_pos rfl]; omega
  · rw [decide_eq_false q, if_neg (by simp)]; omega
theorem Add_fin {a b : UInt64} (ha : fE a.toNat ≠ 2047) (hb : fE b.toNat ≠ 2047) : ref05_Add a b = some (fAdd a b) := by
  have oa : ref05_Odd a = some false := by rw [ROdd_eq, decide_eq_false (fun e => ha e.1)]
  have ob : ref05_Odd b = some false := by rw [ROdd_eq, decide_eq_false (fun e => hb e.1)]
  have fa : ref05_Finite a = some true := by rw [RFin_eq, decide_eq_true ha]
  have fb : ref05_Finite b = some true := by rw [RFin_eq, decide_eq_true hb]
  obtain ⟨w1, w2, w3, w4⟩ := fW_facts a.toNat
  obtain ⟨v1, v2, v3, v4⟩ := fW_facts b.toNat
  have x1 := fX_le ha
  have x2 := fX_le hb
  have eW : (UInt64.ofNat (fW a.toNat)).toNat = fW a.toNat := by rw [UInt64.toNat_ofNat']; omega
  have eV : (UInt64.ofNat (fW b.toNat)).toNat = fW b.toNat := by rw [UInt64.toNat_ofNat']; omega
  obtain ⟨m, n, d, g, p1, p2, p3, p4, p5, p6, p7⟩ := prep (W := UInt64.ofNat (fW a.toNat)) (V := UInt64.ofNat (fW b.toNat)) (e := fX a.toNat) (f := fX b.toNat) (by rw [eW]; exact w1) (by rw [eV]; exact v1) ⟨w3, x1⟩ ⟨v3, x2⟩ (by rw [eW]; exact w2) (by rw [eV]; exact v2)
  rw [eW, eV] at p4 p7
  have sA : decide (9223372036854775808 ≤ a) = fS a.toNat := by
    unfold fS; rw [decide_eq_decide, UInt64.le_iff_toNat_le]; exact Iff.rfl
  have sB : decide (9223372036854775808 ≤ b) = fS b.toNat := by
    unfold fS; rw [decide_eq_decide, UInt64.le_iff_toNat_le]; exact Iff.rfl
  unfold fAdd Format.add
  rw [read_eq (UInt64.toNat_lt a), read_eq (UInt64.toNat_lt b), if_neg ha, if_neg hb, sum_write]
  simp only [Option.map_some, Format.write]
  unfold ref05_Add
  rw [oa, bind_some, bifF rfl, ob, bind_some, bind_some, bifF rfl, fa, bind_some, bifF (by rfl), bind_some, bifF (by rfl), bind_some, bifF (by rfl), fb, bind_some, bifF (by rfl), wide_eq, wide_eq, bind_some]
  dsimp only
  rw [bind_some]
  dsimp only
  rw [lett_eq, lett_eq, p1, bind_some]
  dsimp only
  rw [lett_eq, lett_eq, sA, sB]
  generalize hX : fW a.toNat * 2 ^ (fX a.toNat - min (fX a.toNat) (fX b.toNat)) = X at *
  generalize hY : fW b.toNat * 2 ^ (fX b.toNat - min (fX a.toNat) (fX b.toNat)) = Y at *
  have hlt := p4.lt
  have hlt' := p4.swap.lt
  have z0 : (0 : UInt64).toNat = 0 := rfl
  have Xz : X = 0 → fE a.toNat = 0 ∧ fM a.toNat = 0 := by
    intro h
    rw [← hX] at h
    rcases Nat.mul_eq_zero.1 h with h | h
    · exact w4 h
    · have := Nat.two_pow_pos (fX a.toNat - min (fX a.toNat) (fX b.toNat)); omega
  have mz : m.toNat = 0 ↔ X = 0 := by
    rcases p4.h with ⟨h1, _⟩ | ⟨_, _, h3⟩
    · have := Nat.two_pow_pos d
      constructor
      · intro q; rw [q, Nat.zero_mul] at h1; omega
      · intro q; rw [q] at h1
        rcases Nat.mul_eq_zero.1 h1 with h | h
        · exact h
        · omega
    · have := (h3 0).2
      simp only [Nat.mul_zero, Nat.zero_mul] at this
      omega
  have nz : n.toNat = 0 ↔ Y = 0 := by
    rcases p4.h with ⟨_, _, h3⟩ | ⟨h1, _⟩
    · have := (h3 0).2
      simp only [Nat.mul_zero, Nat.zero_mul] at this
      omega
    · have := Nat.two_pow_pos d
      constructor
      · intro q; rw [q, Nat.zero_mul] at h1; omega
      · intro q; rw [q] at h1
        rcases Nat.mul_eq_zero.1 h1 with h | h
        · exact h
        · omega
  obtain ⟨k, hk⟩ : ∃ k : Nat, k = 2197 := ⟨_, rfl⟩
  have R : ∀ (M : UInt64) (mag : Nat) (neg : Bool), mag ≠ 0 → (M.toNat * 2 ^ d = 8 * mag ∨ (RepU 2 M.toNat (8 * mag) d ∧ 18014398509481984 ≤ M.toNat)) → M.toNat < 288230376151711744 →
      ref05_round M (g : Int) neg = some (UInt64.ofNat (double.nearest neg mag (((min (fX a.toNat) (fX b.toNat) : Nat) : Int) - 1075))) := by
    intro M mag neg h0 h1 h2
    exact round_eq h0 (mkStd (k := k) h1) (by omega) (by omega) h2 (by omega) (by omega)
  by_cases hs : fS a.toNat = fS b.toNat
  · rw [bifTd hs, if_pos hs, if_pos hs, ite_self]
    by_cases h0 : X + Y = 0
    · have hx := Xz (by omega)
      rw [h0, nearest_zero, bifT, ← word_zero hx.1 hx.2]
      rw [Bool.and_eq_true, decide_eq_true_eq, decide_eq_true_eq, ← UInt64.toNat_inj, ← UInt64.toNat_inj, z0]
      exact ⟨mz.2 (by omega), nz.2 (by omega)⟩
    · have hsum : (m + n).toNat = m.toNat + n.toNat := by rw [UInt64.toNat_add]; omega
      rw [bifF, R (m + n) (X + Y) _ h0 _ (by omega), bind_some]
      · rw [hsum]
        rcases p7 with ⟨q1, q2⟩ | ⟨q1, q2⟩ | ⟨q1, q2⟩
        · left; rw [Nat.add_mul, q1, q2]; omega
        · right
          have := p4.add
          rw [← Nat.mul_add] at this
          exact ⟨this, by omega⟩
        · right
          have := p4.add
          rw [← Nat.mul_add] at this
          exact ⟨this, by omega⟩
      · rw [Bool.and_eq_false_iff, decide_eq_false_iff_not, decide_eq_false_iff_not, ← UInt64.toNat_inj, ← UInt64.toNat_inj, z0, mz, nz]; omega
  · rw [bifFd hs, if_neg hs, if_neg hs]
    by_cases hle : n.toNat ≤ m.toNat
    · have hYX : Y ≤ X := by
        rcases Nat.lt_or_eq_of_le hle with q | q
        · have := hlt.1.1 q; omega
        · have := hlt.2.1 q; omega
      have hsub : (m - n).toNat = m.toNat - n.toNat := by rw [UInt64.toNat_sub]; omega
      rw [bifTd (by rw [UInt64.le_iff_toNat_le]; exact hle), if_pos hYX]
      by_cases heq : X = Y
      · have he : n.toNat = m.toNat := hlt.2.2 (by omega)
        rw [if_pos heq, heq, Nat.sub_self, nearest_zero]
        have hz : m - n = 0 := UInt64.toNat_inj.1 (by rw [hsub, z0]; omega)
        rw [hz]
        unfold ref05_round
        rw [bifTd rfl, bind_some]; rfl
      · have hl : n.toNat < m.toNat := hlt.1.2 (by omega)
        rw [if_neg heq, if_pos (by omega), show (fS a.toNat && decide (n < m)) = fS a.toNat by rw [decide_eq_true (UInt64.lt_iff_toNat_lt.2 hl), Bool.and_true]]
        rw [R (m - n) (X - Y) _ (by omega) _ (by omega), bind_some]
        rw [hsub]
        rcases p7 with ⟨q1, q2⟩ | ⟨q1, q2⟩ | ⟨q1, q2⟩
        · left; rw [Nat.sub_mul, q1, q2]; omega
        · right
          have := p4.sub hle
          rw [← Nat.mul_sub] at this
          exact ⟨this, by omega⟩
        · omega
    · have hYX : ¬ Y ≤ X := by
        have := hlt'.1.1 (by omega); omega
      have hsub : (n - m).toNat = n.toNat - m.toNat := by rw [UInt64.toNat_sub]; omega
      rw [bifFd (by rw [UInt64.le_iff_toNat_le]; exact hle), if_neg hYX, if_neg (by omega), if_neg (by omega)]
      rw [R (n - m) (Y - X) _ (by omega) _ (by omega), bind_some]
      rw [hsub]
      rcases p7 with ⟨q1, q2⟩ | ⟨q1, q2⟩ | ⟨q1, q2⟩
      · left; rw [Nat.sub_mul, q1, q2]; omega
      · omega
      · right
        have := p4.swap.sub (by omega)
        rw [← Nat.mul_sub] at this
        exact ⟨this, by omega⟩
end Go.Lg
