/- Lemmas about the given model and about plain data, which the rows stand on: no statement of the program by itself. -/
import Derived.Test.YtmjgdjaneckdaaaLg05b
set_option linter.unusedVariables false
namespace Go.Lg
open Ieee
attribute [local irreducible] w64 toU64 toU8 shlU shrU shlB shrB

/-- m, e stands for N at unit c: exactly, or with its last digit set for what went out, and then it is large -/
def Std (m N c : Nat) : Prop := m * 2 ^ c = N ∨ (RepU 2 m N c ∧ 18014398509481984 ≤ m)
theorem round_lp1 (N : Nat) (off : Int) : ∀ (n : Nat) (m : UInt64) (e c : Nat), m.toNat ≤ n → Std m.toNat N c → (c : Int) = (e : Int) + off → e + m.toNat / 36028797018963968 ≤ 3000 → 1 ≤ e →
    ∃ (m' : UInt64) (e' c' : Nat), loop ref05_round_lp1 (m, (e : Int)) = some (.go (m', (e' : Int))) ∧ Std m'.toNat N c' ∧ (c' : Int) = (e' : Int) + off ∧ m'.toNat < 72057594037927936 ∧ 1 ≤ e' ∧ e' ≤ e + m.toNat / 36028797018963968 := by
  intro n
  induction n using Nat.strongRecOn with
  | _ n ih =>
    intro m e c hn hs hc he he1
    by_cases h : 72057594037927936 ≤ m.toNat
    · obtain ⟨r, r1, r2, r3⟩ := shifted_eq m (n := 1) (by omega)
      have r1' : ref05_shifted m 1 = some r := r1
      rw [Nat.pow_one] at r3
      have hlow : 36028797018963968 ≤ r.toNat := by
        have := (r2.le 18014398509481984).2 (by rw [Nat.pow_one]; omega)
        omega
      have hs' : Std r.toNat N (c + 1) := by
        refine .inr ⟨?_, by omega⟩
        rcases hs with hs | ⟨hs, _⟩
        · have := r2.scale c
          rw [hs, Nat.add_comm 1 c] at this
          exact this
        · intro t
          obtain ⟨a1, a2⟩ := r2 t
          obtain ⟨b1, b2⟩ := hs (2 * t)
          have e2 : 2 * t * 2 ^ (c + 1) = 2 * (2 * t) * 2 ^ c := by rw [Nat.pow_succ]; grind
          rw [Nat.pow_one] at a1 a2
          rw [e2, ← b1, ← b2, a1, a2, Nat.mul_comm (2 * t) 2]
          exact ⟨Iff.rfl, Iff.rfl⟩
      obtain ⟨m', e', c', l1, l2, l3, l4, l5, l6⟩ := ih r.toNat (by omega) r (e + 1) (c + 1) (Nat.le_refl _) hs' (by omega) (by omega) (by omega)
      exact ⟨m', e', c', by
        rw [← l1]
        refine loop_next ?_
        unfold ref05_round_lp1
        dsimp only
        rw [bifTd (by rw [UInt64.le_iff_toNat_le]; exact h), r1', bind_some, lett_eq, w64_succ (by omega)], l2, l3, l4, l5, by omega⟩
    · refine ⟨m, e, c, loop_brk ?_, hs, hc, by omega, he1, by omega⟩
      unfold ref05_round_lp1
      dsimp only
      rw [bifFd (by rw [UInt64.le_iff_toNat_le]; exact h)]
theorem round_lp2 (N : Nat) (off : Int) : ∀ (k : Nat) (m : UInt64) (e c : Nat), e ≤ k → Std m.toNat N c → (c : Int) = (e : Int) + off → 0 ≤ off → m.toNat < 72057594037927936 → e ≤ 3000 → 1 ≤ e →
    ∃ (m' : UInt64) (e' c' : Nat), loop ref05_round_lp2 (m, (e : Int)) = some (.go (m', (e' : Int))) ∧ RepU 4 m'.toNat N c' ∧ (c' : Int) = (e' : Int) + off ∧ m'.toNat < 72057594037927936 ∧ 1 ≤ e' ∧ e' ≤ e ∧ (36028797018963968 ≤ m'.toNat ∨ e' = 1) := by
  have stop : ∀ (m : UInt64) (e c : Nat), (36028797018963968 ≤ m.toNat ∨ e = 1) → RepU 4 m.toNat N c → (c : Int) = (e : Int) + off → m.toNat < 72057594037927936 → 1 ≤ e →
      ∃ (m' : UInt64) (e' c' : Nat), loop ref05_round_lp2 (m, (e : Int)) = some (.go (m', (e' : Int))) ∧ RepU 4 m'.toNat N c' ∧ (c' : Int) = (e' : Int) + off ∧ m'.toNat < 72057594037927936 ∧ 1 ≤ e' ∧ e' ≤ e ∧ (36028797018963968 ≤ m'.toNat ∨ e' = 1) := by
    intro m e c hst hr hc hm he1
    refine ⟨m, e, c, loop_brk ?_, hr, hc, hm, he1, Nat.le_refl _, hst⟩
    unfold ref05_round_lp2
    dsimp only
    rw [bifF]
    rw [Bool.and_eq_false_iff, decide_eq_false_iff_not, decide_eq_false_iff_not, UInt64.lt_iff_toNat_lt, show (36028797018963968 : UInt64).toNat = 36028797018963968 from rfl]
    omega
  intro k
  induction k with
  | zero => intro m e c hk _ _ _ _ _ he1; omega
  | succ k ih =>
    intro m e c hk hs hc ho hm he he1
    by_cases h : 36028797018963968 ≤ m.toNat ∨ e = 1
    · refine stop m e c h ?_ hc hm he1
      rcases hs with hs | ⟨hs, _⟩
      · exact RepU.exact hs
      · exact hs.coarse (v := 2)
    · obtain ⟨d, rfl⟩ : ∃ d, c = d + 1 := ⟨c - 1, by omega⟩
      obtain ⟨f, rfl⟩ : ∃ f, e = f + 1 := ⟨e - 1, by omega⟩
      have h2 : ((2 : UInt64) * m).toNat = 2 * m.toNat := by
        rw [UInt64.toNat_mul, show (2 : UInt64).toNat = 2 from rfl]; omega
      have hn : ref05_round_lp2 (m, ((f + 1 : Nat) : Int)) = some (.next ((2 : UInt64) * m, (f : Int))) := by
        unfold ref05_round_lp2
        dsimp only
        rw [bifT (by rw [Bool.and_eq_true, decide_eq_true_eq, decide_eq_true_eq, UInt64.lt_iff_toNat_lt, show (36028797018963968 : UInt64).toNat = 36028797018963968 from rfl]; omega), lett_eq, lett_eq, w64_id (by omega) (by omega), show ((f + 1 : Nat) : Int) - 1 = (f : Int) by omega]
      rw [loop_next hn]
      rcases hs with hs | ⟨hs, hb⟩
      · obtain ⟨m', e', c', l1, l2, l3, l4, l5, l6, l7⟩ := ih ((2 : UInt64) * m) f d (by omega) (.inl (by rw [h2, ← hs, Nat.pow_succ]; grind)) (by omega) ho (by omega) (by omega) (by omega)
        exact ⟨m', e', c', l1, l2, l3, l4, l5, by omega, l7⟩
      · obtain ⟨m', e', c', l1, l2, l3, l4, l5, l6, l7⟩ := stop ((2 : UInt64) * m) f d (.inl (by omega)) (by rw [h2]; exact hs.double) (by omega) (by omega) (by omega)
        exact ⟨m', e', c', l1, l2, l3, l4, l5, by omega, l7⟩
theorem rne_le (m : Nat) : rne m 3 = m / 8 + if 8 < 2 * (m % 8) ∨ (8 = 2 * (m % 8) ∧ m / 8 % 2 = 1) then 1 else 0 := rfl
/-- the document's rounding is the nearest word -/
theorem round_eq {m : UInt64} {mag e c K : Nat} {place : Int} {neg : Bool} (hmag : mag ≠ 0) (hs : Std m.toNat (mag * 2 ^ K) c) (hK : (c : Int) = (e : Int) - 1078 - place + K) (hoff : 0 ≤ (K : Int) - 1078 - place)
    (hm : m.toNat < 288230376151711744) (he : e ≤ 2900) (he1 : 1 ≤ e) : ref05_round m (e : Int) neg = some (UInt64.ofNat (double.nearest neg mag place)) := by
  have hN : 0 < mag * 2 ^ K := Nat.mul_pos (by omega) (Nat.two_pow_pos K)
  have hm0 : m ≠ 0 := by
    rintro rfl
    have z : (0 : UInt64).toNat = 0 := rfl
    rcases hs with hs | ⟨_, hs⟩
    · rw [z, Nat.zero_mul] at hs; omega
    · rw [z] at hs; omega
  obtain ⟨m1, e1, c1, a1, a2, a3, a4, a5, a6⟩ := round_lp1 (mag * 2 ^ K) ((K : Int) - 1078 - place) m.toNat m e c (Nat.le_refl _) hs (by omega) (by omega) he1
  obtain ⟨m2, e2, c2, b1, b2, b3, b4, b5, b6, b7⟩ := round_lp2 (mag * 2 ^ K) ((K : Int) - 1078 - place) e1 m1 e1 c1 (Nat.le_refl _) a2 a3 hoff a4 (by omega) a5
  have hn := nearest_eq (neg := neg) (place := place) (K := K) (c := c2) (e := e2) hmag (by omega) b2 b5 b4 b7
  have hinf : double.infRung = 9218868437227405312 := by decide
  have hsw : double.signWeight = 9223372036854775808 := by decide
  rw [hinf] at hn
  rw [hn]
  have hr := rne_le m2.toNat
  generalize hk : rne m2.toNat 3 = kept at *
  unfold ref05_round
  rw [bifFd hm0, a1, flow_go, bind_some]
  dsimp only
  rw [b1, flow_go, bind_some]
  dsimp only
  rw [lett_eq, lett_eq]
  have q8 : (m2 / 8).toNat = m2.toNat / 8 := by rw [UInt64.toNat_div]; rfl
  have r8 : (m2 % 8).toNat = m2.toNat % 8 := by rw [UInt64.toNat_mod]; rfl
  have n4 : (4 : UInt64).toNat = 4 := rfl
  have n1' : (1 : UInt64).toNat = 1 := rfl
  have p2 : (m2 / 8 % 2).toNat = m2.toNat / 8 % 2 := by rw [UInt64.toNat_mod, q8]; rfl
  have hup : (bif ((decide (4 < m2 % 8)) || ((decide (m2 % 8 = 4)) && (decide ((m2 / 8 % 2) = 1)))) then lett (m2 / 8 + 1) fun m73 => some m73 else some (m2 / 8)) = some (UInt64.ofNat kept) := by
    by_cases h : 8 < 2 * (m2.toNat % 8) ∨ (8 = 2 * (m2.toNat % 8) ∧ m2.toNat / 8 % 2 = 1)
    · rw [if_pos h] at hr
      rw [bifT, lett_eq, hr]
      · refine congrArg some (UInt64.toNat_inj.1 ?_)
        rw [UInt64.toNat_add, q8, n1', UInt64.toNat_ofNat']
      · rw [Bool.or_eq_true, Bool.and_eq_true, decide_eq_true_eq, decide_eq_true_eq, decide_eq_true_eq, UInt64.lt_iff_toNat_lt, ← UInt64.toNat_inj, ← UInt64.toNat_inj, r8, p2, n4, n1']; omega
    · rw [if_neg h] at hr
      rw [bifF, hr]
      · refine congrArg some (UInt64.toNat_inj.1 ?_)
        rw [q8, UInt64.toNat_ofNat']; omega
      · rw [Bool.or_eq_false_iff, Bool.and_eq_false_iff, decide_eq_false_iff_not, decide_eq_false_iff_not, decide_eq_false_iff_not, UInt64.lt_iff_toNat_lt, ← UInt64.toNat_inj, ← UInt64.toNat_inj, r8, p2, n4, n1']; omega
  have hkb : kept ≤ 9007199254740992 := by rw [hr]; split <;> omega
  have hkl : 4503599627370496 ≤ kept ∨ e2 = 1 := by
    rcases b7 with b7 | b7
    · left; rw [hr]; omega
    · exact .inr b7
  have kn : (UInt64.ofNat kept).toNat = kept := by rw [UInt64.toNat_ofNat']; omega
  rw [hup, bind_some]
  -- what comes out, unsigned
  have hout : ((bif decide (9007199254740992 ≤ UInt64.ofNat kept) then
      lett (UInt64.ofNat kept / 2) fun m79 => lett (w64 ((e2 : Int) + 1)) fun e80 => some (m79, e80)
      else some (UInt64.ofNat kept, (e2 : Int))).bind fun (m74, e75) =>
      (bif decide (e75 < 2047) then
        bif decide (4503599627370496 ≤ m74) then lett (((m74 - 4503599627370496) + ((toU64 e75) * 4503599627370496))) fun out86 => some out86
        else some m74
      else some 9218868437227405312)) = some (UInt64.ofNat (min ((e2 - 1) * 4503599627370496 + kept) 9218868437227405312)) := by
    have nn : (4503599627370496 : UInt64).toNat = 4503599627370496 := rfl
    by_cases hc : kept = 9007199254740992
    · have hh : UInt64.ofNat kept / 2 = 4503599627370496 := by rw [hc]; decide
      rw [bifTd (by rw [UInt64.le_iff_toNat_le, kn, hc]; decide), lett_eq, lett_eq, hh, w64_succ (by omega), bind_some]
      dsimp only
      by_cases hl : e2 + 1 < 2047
      · rw [bifTd (by omega), bifTd (by decide), lett_eq, Nat.min_eq_left (by omega)]
        refine congrArg some (UInt64.toNat_inj.1 ?_)
        rw [UInt64.toNat_add, UInt64.toNat_mul, toU64_nat (by omega), nn, UInt64.toNat_sub, nn, UInt64.toNat_ofNat']; omega
      · rw [bifFd (by omega), Nat.min_eq_right (by omega)]; rfl
    · rw [bifFd (by rw [UInt64.le_iff_toNat_le, kn, show (9007199254740992 : UInt64).toNat = 9007199254740992 from rfl]; omega), bind_some]
      dsimp only
      by_cases hl : e2 < 2047
      · rw [bifTd (by omega), Nat.min_eq_left (by omega)]
        by_cases hq : 4503599627370496 ≤ kept
        · rw [bifTd (by rw [UInt64.le_iff_toNat_le, kn, nn]; exact hq), lett_eq]
          refine congrArg some (UInt64.toNat_inj.1 ?_)
          rw [UInt64.toNat_add, UInt64.toNat_mul, toU64_nat (by omega), nn, UInt64.toNat_sub, kn, nn, UInt64.toNat_ofNat']; omega
        · rw [bifFd (by rw [UInt64.le_iff_toNat_le, kn, nn]; exact hq)]
          have : e2 = 1 := by omega
          rw [this, Nat.sub_self, Nat.zero_mul, Nat.zero_add]
      · rw [bifFd (by omega), Nat.min_eq_right (by omega)]; rfl
  have hout' := hout
  revert hout'
  generalize (bif decide (9007199254740992 ≤ UInt64.ofNat kept) then
      lett (UInt64.ofNat kept / 2) fun m79 => lett (w64 ((e2 : Int) + 1)) fun e80 => some (m79, e80)
      else some (UInt64.ofNat kept, (e2 : Int))) = A
  intro hA
  cases A with
  | none => cases hA
  | some A =>
    obtain ⟨A1, A2⟩ := A
    rw [bind_some] at hA ⊢
    dsimp only at hA ⊢
    rw [hA, bind_some]
    unfold Format.word
    rw [hsw]
    have hmin : min ((e2 - 1) * 4503599627370496 + kept) 9218868437227405312 ≤ 9218868437227405312 := Nat.min_le_right _ _
    generalize min ((e2 - 1) * 4503599627370496 + kept) 9218868437227405312 = R at *
    cases neg with
    | true =>
      rw [bifT rfl, lett_eq, if_pos rfl]
      refine congrArg some (UInt64.toNat_inj.1 ?_)
      rw [UInt64.toNat_add, UInt64.toNat_ofNat', UInt64.toNat_ofNat', show (9223372036854775808 : UInt64).toNat = 9223372036854775808 from rfl]; omega
    | false => rw [bifF (by rfl), if_neg (by simp)]
end Go.Lg
