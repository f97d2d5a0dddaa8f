/- Lemmas about the given model and about plain data, which the rows stand on: no statement of the program by itself. -/
import Derived.Test.YtmjgdjaneckdaaaLg05k
import Derived.Test.YtmjgdjaneckdaaaLgPhasP
set_option linter.unusedVariables false
namespace Go.Lg
open Ieee
attribute [local irreducible] w64 toU64 toU8 shlU shrU shlB shrB

theorem ofNat_self (u : UInt64) : UInt64.ofNat u.toNat = u := UInt64.toNat_inj.1 (by rw [UInt64.toNat_ofNat']; have := UInt64.toNat_lt u; omega)
theorem can_of {u : UInt64} (h : fOdd u.toNat = false) : fCan u.toNat = u := by
  unfold fCan
  rw [if_neg (by rw [h]; simp), ofNat_self]
theorem can_odd {n : Nat} (h : fOdd n = true) : fCan n = 9221120237041090561 := by
  unfold fCan
  rw [if_pos h]
theorem odd_minus (u : UInt64) : fOdd (fMinus u).toNat = fOdd u.toNat := by
  obtain ⟨_, h2, h3⟩ := fMinus_nat u
  unfold fOdd
  rw [h2, h3]
theorem xor_nat (u : UInt64) : u.toNat ^^^ 9223372036854775808 = (fMinus u).toNat := by
  rw [← xor_minus, UInt64.toNat_xor]; rfl
def neg (u : UInt64) : UInt64 := fCan (fMinus u).toNat
theorem minus_minus (u : UInt64) : fMinus (fMinus u) = u := by
  rw [← xor_minus, ← xor_minus, UInt64.xor_assoc, UInt64.xor_self, UInt64.xor_zero]
theorem neg_neg {u : UInt64} (h : fCan u.toNat = u) : neg (neg u) = u := by
  unfold neg
  cases q : fOdd u.toNat
  · have h1 : fCan (fMinus u).toNat = fMinus u := can_of (by rw [odd_minus]; exact q)
    rw [h1, minus_minus, can_of q]
  · have h1 : fCan (fMinus u).toNat = 9221120237041090561 := can_odd (by rw [odd_minus]; exact q)
    have h2 : u = 9221120237041090561 := by rw [← h]; exact can_odd q
    rw [h1, h2]
    exact can_odd (by rw [odd_minus]; decide)
theorem can_neg (u : UInt64) : fCan (neg u).toNat = neg u := can_can _ (UInt64.toNat_lt _)
theorem Turn_eq (a b : UInt64) : num_Turn a b = some (neg b, fCan a.toNat) := by
  unfold num_Turn neg
  rw [xor_nat]
theorem can_add (a b : UInt64) : fCan (fAdd a b).toNat = fAdd a b := by
  unfold fAdd
  cases h : double.add a.toNat b.toNat with
  | none => exact can_odd (by decide)
  | some r =>
    refine can_of ?_
    have h1 := add_num h
    have h2 : r < 18446744073709551616 := double.add_lt h
    rw [show (UInt64.ofNat r).toNat = r by rw [UInt64.toNat_ofNat']; omega]
    exact h1
theorem read_can (u : UInt64) : double.read (fCan u.toNat).toNat = double.read u.toNat ∨ (fOdd u.toNat = true ∧ fOdd (fCan u.toNat).toNat = true) := by
  cases q : fOdd u.toNat
  · exact .inl (by rw [can_of q])
  · exact .inr ⟨rfl, by rw [can_odd q]; decide⟩
theorem add_odd {a b : UInt64} (h : fOdd a.toNat = true ∨ fOdd b.toNat = true) : fAdd a b = 9221120237041090561 := by
  rcases h with h | h
  · have h := of_decide_eq_true h
    have ra := read_eq (UInt64.toNat_lt a)
    rw [if_pos h.1, if_neg h.2] at ra
    unfold fAdd Format.add
    rw [ra]; rfl
  · have h := of_decide_eq_true h
    have rb := read_eq (UInt64.toNat_lt b)
    rw [if_pos h.1, if_neg h.2] at rb
    unfold fAdd Format.add
    rw [rb]
    generalize double.read a.toNat = x
    cases x <;> rfl
theorem add_can (a b : UInt64) : fAdd (fCan a.toNat) (fCan b.toNat) = fAdd a b := by
  rcases read_can a with ha | ⟨ha, ha'⟩
  · rcases read_can b with hb | ⟨hb, hb'⟩
    · unfold fAdd Format.add
      rw [ha, hb]
    · rw [add_odd (.inr hb), add_odd (.inr hb')]
  · rw [add_odd (.inl ha), add_odd (.inl ha')]
theorem sum_opp (x y : Datum) : (∃ s p, x.sum y = some (.number s 0 p)) ∨ x.opposite.sum y.opposite = (x.sum y).map Datum.opposite := by
  cases x <;> cases y <;> simp only [Datum.opposite, Datum.sum, Option.map_none, Option.map_some]
  · rename_i s m i t n j
    have hs : ∀ (s : Bool) (m k : Nat), signed (!s) m k = -signed s m k := by
      intro s m k
      rw [signed_eq, signed_eq]
      cases s <;> simp
    rw [hs, hs]
    generalize signed s m (i - min i j).toNat = X
    generalize signed t n (j - min i j).toNat = Y
    by_cases h : X + Y = 0
    · left
      exact ⟨_, _, by rw [h]; rfl⟩
    · right
      have e : -X + -Y = -(X + Y) := by omega
      rw [e, if_neg (by omega), if_neg h, Int.natAbs_neg]
      congr 2
      by_cases q : X + Y < 0
      · rw [decide_eq_true q, decide_eq_false (by omega)]; rfl
      · rw [decide_eq_false q, decide_eq_true (by omega)]; rfl
  all_goals first
    | (right; rfl)
    | (right; trivial)
    | (rename_i s t; right; by_cases h : s = t
       · subst h; rw [if_pos rfl, if_pos rfl]; rfl
       · rw [if_neg h, if_neg (by simpa using h)]; rfl)
theorem write_opp {d : Datum} (h : d.isNaN = false) : UInt64.ofNat (double.write d.opposite) = fMinus (UInt64.ofNat (double.write d)) := by
  have hinf : double.infRung = 9218868437227405312 := by decide
  have hsw : double.signWeight = 9223372036854775808 := by decide
  have n63 : (9223372036854775808 : UInt64).toNat = 9223372036854775808 := rfl
  have key : ∀ (s : Bool) (R : Nat), R ≤ 9218868437227405312 → UInt64.ofNat (double.word (!s) R) = fMinus (UInt64.ofNat (double.word s R)) := by
    intro s R hR
    unfold Format.word
    rw [hsw]
    apply UInt64.toNat_inj.1
    unfold fMinus fS
    cases s
    · simp only [Bool.not_false, if_true, Bool.false_eq_true, if_false]
      rw [UInt64.toNat_ofNat', UInt64.toNat_ofNat', decide_eq_false (by omega), if_neg (by simp), UInt64.toNat_add, UInt64.toNat_ofNat', n63]; omega
    · simp only [Bool.not_true, if_true, Bool.false_eq_true, if_false]
      rw [UInt64.toNat_ofNat', UInt64.toNat_ofNat', decide_eq_true (by omega), if_pos rfl, UInt64.toNat_sub, UInt64.toNat_ofNat', n63]; omega
  cases d with
  | nan s f => simp [Datum.isNaN] at h
  | infinity s =>
    unfold Format.write Datum.opposite
    dsimp only
    rw [hinf]
    exact key s _ (Nat.le_refl _)
  | number s m p =>
    unfold Format.write Datum.opposite Format.nearest
    dsimp only
    split
    · exact key s 0 (by omega)
    · rw [hinf]
      exact key s _ (Nat.min_le_right _ _)
theorem add_neg {b d : UInt64} (h : fAdd b d % 9223372036854775808 ≠ 0) : fAdd (fMinus b) (fMinus d) = neg (fAdd b d) := by
  have ho := sum_opp (double.read b.toNat) (double.read d.toNat)
  unfold neg
  have e : fAdd (fMinus b) (fMinus d) = match ((double.read b.toNat).opposite.sum (double.read d.toNat).opposite).map double.write with
    | some r => UInt64.ofNat r
    | none => 9221120237041090561 := by
    unfold fAdd Format.add
    rw [read_minus, read_minus]
    generalize Option.map double.write _ = z
    cases z <;> rfl
  rw [e]
  unfold fAdd Format.add at h ⊢
  rcases ho with ⟨s, p, ho⟩ | ho
  · exfalso
    apply h
    rw [ho]
    simp only [Option.map_some, Format.write]
    rw [nearest_zero]
    cases s <;> decide
  · rw [ho]
    cases hz : (double.read b.toNat).sum (double.read d.toNat) with
    | none => rfl
    | some z =>
      have hn := sum_num hz
      simp only [Option.map_some]
      rw [write_opp hn]
      have hw := write_num hn
      have hlt : double.write z < 18446744073709551616 := double.write_lt z
      have e2 : (UInt64.ofNat (double.write z)).toNat = double.write z := by rw [UInt64.toNat_ofNat']; omega
      exact (can_of (by rw [odd_minus, e2]; exact hw)).symm
theorem four_turns {e f : UInt64} (he : fCan e.toNat = e) (hf : fCan f.toNat = f) : loop law05_NumPhasors_lp1 (e, f, 0) = some (.go (e, f)) := by
  have step : ∀ (u v : UInt64) (i : Nat), i < 4 → law05_NumPhasors_lp1 (u, v, (i : Int)) = some (.next (neg v, fCan u.toNat, ((i + 1 : Nat) : Int))) := by
    intro u v i hi
    unfold law05_NumPhasors_lp1
    dsimp only
    rw [bifTd (by omega), Turn_eq, bind_some]
    dsimp only
    rw [lett_eq, w64_succ (by omega)]
  have s0 := step e f 0 (by omega)
  rw [he] at s0
  have s1 := step (neg f) e 1 (by omega)
  rw [can_neg] at s1
  have s2 := step (neg e) (neg f) 2 (by omega)
  rw [can_neg, neg_neg hf] at s2
  have s3 := step f (neg e) 3 (by omega)
  rw [hf, neg_neg he] at s3
  have s0' : law05_NumPhasors_lp1 (e, f, 0) = some (.next (neg f, e, ((1 : Nat) : Int))) := s0
  rw [loop_next s0', loop_next s1, loop_next s2, loop_next s3]
  refine loop_brk ?_
  unfold law05_NumPhasors_lp1
  dsimp only
  rw [bifFd (by omega)]
theorem numPhasors (a b c d : UInt64) : law05_NumPhasors a b c d = some true := by
  have hap : ∀ a b c d, num_AddPhasor a b c d = some (fAdd a c, fAdd b d) := fun _ _ _ _ => rfl
  have hsp : num_SubPhasor a b c d = some (fSub a c, fSub b d) := rfl
  have ho : ref05_Odd (fAdd b d) = some (fOdd (fAdd b d).toNat) := ROdd_eq _
  unfold law05_NumPhasors
  rw [awake05, bind_some, bifF (by rfl), hap, bind_some]
  dsimp only
  rw [Add_eq, bind_some, bifF (by simp), Add_eq, bind_some, bind_some, bifF (by simp), Turn_eq, bind_some]
  dsimp only
  rw [Turn_eq, bind_some]
  dsimp only
  rw [Turn_eq, bind_some]
  dsimp only
  rw [hap, bind_some]
  dsimp only
  rw [ho, bind_some, can_add, add_can]
  have h1 : (bif (fOdd (fAdd b d).toNat && (!decide (neg (fAdd b d) = 9221120237041090561))) then some true
      else (some (fOdd (fAdd b d).toNat)).bind fun r116 =>
      (bif (!r116) then (ref05_Minus (fAdd b d)).bind fun r132 => some (!decide (neg (fAdd b d) = r132)) else some false).bind fun x125 => some x125) = some false := by
    cases q : fOdd (fAdd b d).toNat
    · have : neg (fAdd b d) = fMinus (fAdd b d) := can_of (by rw [odd_minus]; exact q)
      rw [bifF (by rfl), bind_some, bifT (by rfl), Minus_eq, bind_some, bind_some, this]; simp
    · have : neg (fAdd b d) = 9221120237041090561 := can_odd (by rw [odd_minus]; exact q)
      rw [bifF (by rw [this]; simp), bind_some]; rfl
  rw [h1, bind_some, bifF (by simp)]
  have hn : fAdd (neg b) (neg d) = fAdd (fMinus b) (fMinus d) := add_can _ _
  rw [hn]
  have h2 : (((!decide ((fAdd b d % 9223372036854775808) = 0)) && ((!decide (fAdd (fMinus b) (fMinus d) = neg (fAdd b d))) || (!decide (fAdd a c = fAdd a c)))) || (!decide (fAdd a c = fAdd a c))) = false := by
    by_cases q : fAdd b d % 9223372036854775808 = 0
    · simp [q]
    · simp [add_neg q]
  have hb : fCan (neg b).toNat = neg b := can_neg b
  have ha : fCan (fCan a.toNat).toNat = fCan a.toNat := can_can _ (UInt64.toNat_lt a)
  rw [h2, bifF rfl, four_turns hb ha, flow_go, bind_some]
  dsimp only
  rw [bind_some]
  dsimp only
  rw [hsp, bind_some]
  dsimp only
  rw [bifT (by simp), Sub_eq, bind_some, bind_some, bifT (by simp), Sub_eq, bind_some, bind_some, decide_eq_true rfl]
end Go.Lg
