/- Lemmas about the given model and about plain data, which the rows stand on: no statement of the program by itself. -/
import Derived.Test.YtdpokdaeekanjaaLg08
set_option linter.unusedVariables false
namespace Go.Lg
attribute [local irreducible] w64 toU64 toU8 shlU shrU shlB shrB

theorem su_nil : su [] = 0 := rfl
theorem su_cons (x : UInt64) (l : List UInt64) : su (x :: l) = x.toNat + su l := by simp [su]
theorem su_take_mono (l : List UInt64) {a b : Nat} (h : a ≤ b) : su (l.take a) ≤ su (l.take b) := by
  have := su_take_le (l.take b) a
  rwa [List.take_take, Nat.min_eq_left h] at this
theorem su_take_succ {l : List UInt64} {i : Nat} (h : i < l.length) : su (l.take (i + 1)) = su (l.take i) + (l[i]).toNat := by rw [take_snoc h, su_snoc]
theorem su_all (l : List UInt64) {k : Nat} (h : l.length ≤ k) : su (l.take k) = su l := by rw [List.take_of_length_le h]
theorem su_get_le {l : List UInt64} {i : Nat} (h : i < l.length) : (l[i]).toNat ≤ su l := by
  have := su_take_succ h
  have := su_take_le l (i + 1)
  omega
theorem su_zeros (n : Nat) : su (List.replicate n 0) = 0 := by
  induction n with
  | zero => rfl
  | succ n ih => rw [List.replicate_succ, su_cons, ih]; rfl
theorem su_set {l : List UInt64} {k : Nat} (h : k < l.length) (e : UInt64) (hb : (l[k]).toNat + e.toNat < 18446744073709551616) (j : Nat) :
    su ((l.set k (l[k] + e)).take j) = su (l.take j) + if k < j then e.toNat else 0 := by
  induction l generalizing k j with
  | nil => simp at h
  | cons x l ih =>
    cases j with
    | zero => simp [su]
    | succ j =>
      cases k with
      | zero =>
        simp only [List.set_cons_zero, List.take_succ_cons, List.getElem_cons_zero] at hb ⊢
        rw [su_cons, su_cons, if_pos (by omega), UInt64.toNat_add, Nat.mod_eq_of_lt hb]; omega
      | succ k =>
        simp only [List.set_cons_succ, List.take_succ_cons, List.getElem_cons_succ] at hb ⊢
        rw [su_cons, su_cons, ih (by simpa using h) hb]
        by_cases hkj : k < j
        · rw [if_pos hkj, if_pos (by omega)]; omega
        · rw [if_neg hkj, if_neg (by omega)]; omega
/-- lists that sum up alike are alike -/
theorem su_ext {l m : List UInt64} (hl : l.length = m.length) (h : ∀ j, su (l.take j) = su (m.take j)) : l = m := by
  apply List.ext_getElem hl
  intro i h1 h2
  apply UInt64.toNat_inj.1
  have a := su_take_succ h1
  have b := su_take_succ h2
  have c := h i
  have d := h (i + 1)
  omega

/-- more coarsely, by P: t is s with each P buckets one -/
structure Dn (P : Int) (s t : api_Side) : Prop where
  o : t.Offset = s.Offset / P
  l : (t.Counts.length : Int) = (s.Offset + s.Counts.length - 1) / P - s.Offset / P + 1
  su : ∀ j : Nat, su (t.Counts.take j) = su (s.Counts.take (P * (t.Offset + j) - s.Offset).toNat)
theorem Dn.inj {P : Int} {s t u : api_Side} (h : Dn P s t) (k : Dn P s u) : t = u := by
  have ho : t.Offset = u.Offset := by rw [h.o, k.o]
  have hl : t.Counts.length = u.Counts.length := by have := h.l; have := k.l; omega
  have hc : t.Counts = u.Counts := su_ext hl fun j => by rw [h.su, k.su, ho]
  cases t; cases u; simp only at ho hc; subst ho; subst hc; rfl
/-- from what holds of the places alone -/
theorem Dn.of {P : Int} {s t : api_Side} (hP : 0 < P) (o : t.Offset = s.Offset / P) (l : (t.Counts.length : Int) = (s.Offset + s.Counts.length - 1) / P - s.Offset / P + 1)
    (h : ∀ j : Nat, j ≤ t.Counts.length → Lg.su (t.Counts.take j) = Lg.su (s.Counts.take (P * (t.Offset + j) - s.Offset).toNat)) : Dn P s t := by
  refine ⟨o, l, fun j => ?_⟩
  by_cases hj : j ≤ t.Counts.length
  · exact h j hj
  · have hend : ∀ j : Nat, t.Counts.length ≤ j → s.Counts.length ≤ (P * (t.Offset + j) - s.Offset).toNat := by
      intro j hj
      have h1 : P * (t.Offset + j) ≥ P * ((s.Offset + s.Counts.length - 1) / P + 1) := Int.mul_le_mul_of_nonneg_left (by omega) (by omega)
      have h2 : s.Offset + s.Counts.length - 1 < P * ((s.Offset + s.Counts.length - 1) / P + 1) := by
        have h3 := Int.mul_ediv_add_emod (s.Offset + s.Counts.length - 1) P
        have h4 := Int.emod_lt_of_pos (s.Offset + s.Counts.length - 1) hP
        rw [Int.mul_add, Int.mul_one]; omega
      omega
    have h1 := h t.Counts.length (Nat.le_refl _)
    rw [su_all _ (hend _ (Nat.le_refl _)), List.take_length] at h1
    rw [su_all _ (hend j (by omega)), su_all _ (by omega), h1]
theorem Dn.comp {P Q : Int} {s t u : api_Side} (hP : 0 < P) (hQ : 0 < Q) (h : Dn P s t) (k : Dn Q t u) : Dn (P * Q) s u := by
  have ho : u.Offset = s.Offset / (P * Q) := by rw [k.o, h.o, Int.ediv_ediv_of_nonneg (by omega)]
  have hend : t.Offset + t.Counts.length - 1 = (s.Offset + s.Counts.length - 1) / P := by have := h.l; have := h.o; omega
  refine ⟨ho, ?_, fun j => ?_⟩
  · rw [k.l, hend, Int.ediv_ediv_of_nonneg (by omega), h.o, Int.ediv_ediv_of_nonneg (by omega)]
  · rw [k.su, h.su]
    have hq : Q * u.Offset ≤ t.Offset := by rw [k.o]; exact Int.mul_ediv_self_le (by omega)
    by_cases hz : Q * (u.Offset + j) ≤ t.Offset
    · have e1 : (Q * (u.Offset + j) - t.Offset).toNat = 0 := by omega
      have hp : P * t.Offset ≤ s.Offset := by rw [h.o]; exact Int.mul_ediv_self_le (by omega)
      have h2 : P * (Q * (u.Offset + j)) ≤ P * t.Offset := Int.mul_le_mul_of_nonneg_left hz (by omega)
      rw [e1, Int.mul_assoc]
      have e2 : (P * (Q * (u.Offset + j)) - s.Offset).toNat = 0 := by omega
      have e3 : (P * (t.Offset + ((0 : Nat) : Int)) - s.Offset).toNat = 0 := by rw [show t.Offset + ((0 : Nat) : Int) = t.Offset by omega]; omega
      rw [e2, e3]
    · have e1 : t.Offset + ((Q * (u.Offset + j) - t.Offset).toNat : Int) = Q * (u.Offset + j) := by omega
      rw [e1, Int.mul_assoc]
theorem Dn.id (s : api_Side) : Dn 1 s s := by
  refine ⟨by simp, by rw [Int.ediv_one, Int.ediv_one]; omega, fun j => ?_⟩
  congr 2; omega
theorem Dn.tot {P : Int} {s t : api_Side} (hP : 0 < P) (h : Dn P s t) (hn : 0 < s.Counts.length) : Lg.su t.Counts = Lg.su s.Counts := by
  have h1 := h.su t.Counts.length
  rw [List.take_length] at h1
  rw [h1, su_all]
  have hl := h.l
  have ho := h.o
  have h2 : s.Offset + s.Counts.length - 1 < P * ((s.Offset + s.Counts.length - 1) / P + 1) := by
    have h3 := Int.mul_ediv_add_emod (s.Offset + s.Counts.length - 1) P
    have h4 := Int.emod_lt_of_pos (s.Offset + s.Counts.length - 1) hP
    rw [Int.mul_add, Int.mul_one]; omega
  have e : t.Offset + (t.Counts.length : Int) = (s.Offset + s.Counts.length - 1) / P + 1 := by omega
  rw [e]; omega

/-! ### the program's way -/
theorem shrI_nat (a : Int) {n : Nat} (h : n ≤ 64) : shrI a n = a / 2 ^ n := by unfold shrI; rw [Nat.min_eq_left h]
theorem p2 (n : Nat) : (0 : Int) < 2 ^ n := Int.pow_pos (by omega)
theorem div_bd {a : Int} {P : Int} (hP : 0 < P) {b : Int} (hb : 0 ≤ b) (h : -b ≤ a ∧ a ≤ b) : -b ≤ a / P ∧ a / P ≤ b := by
  constructor
  · have : -b ≤ a / P ↔ -b * P ≤ a := Int.le_ediv_iff_mul_le hP
    rw [this]
    have : b ≤ b * P := by
      have := Int.mul_le_mul_of_nonneg_left (show (1 : Int) ≤ P by omega) hb
      omega
    rw [Int.neg_mul]; omega
  · have h1 : a / P ≤ b ↔ a / P < b + 1 := by omega
    rw [h1, Int.ediv_lt_iff_lt_mul hP]
    have := Int.mul_le_mul_of_nonneg_left (show (1 : Int) ≤ P by omega) (show 0 ≤ b + 1 by omega)
    omega
theorem span_eq {s : api_Side} {by_ : Nat} (hb : by_ ≤ 64) (ho : -1100000000000 ≤ s.Offset ∧ s.Offset ≤ 1100000000000) (hn : 0 < s.Counts.length) (hl : s.Counts.length ≤ 1000000) {u : UInt64} (hu : u.toNat = by_) :
    hist_span s u = some ((s.Offset + s.Counts.length - 1) / 2 ^ by_ - s.Offset / 2 ^ by_ + 1) := by
  unfold hist_span
  have h1 := div_bd (p2 by_) (b := 1200000000000) (by omega) (a := s.Offset + s.Counts.length - 1) (by omega)
  have h2 := div_bd (p2 by_) (b := 1200000000000) (by omega) (a := s.Offset) (by omega)
  rw [lett_eq, bifFd (by omega), hu, w64_id (x := s.Offset + s.Counts.length) (by omega) (by omega), w64_id (x := s.Offset + s.Counts.length - 1) (by omega) (by omega), shrI_nat _ hb, shrI_nat _ hb]
  rw [lett_eq, w64_id (x := (s.Offset + s.Counts.length - 1) / 2 ^ by_ - s.Offset / 2 ^ by_) (by omega) (by omega), w64_id (by omega) (by omega)]
theorem ediv_mono {a b P : Int} (hP : 0 < P) (h : a ≤ b) : a / P ≤ b / P := Int.ediv_le_ediv hP h
theorem down_eq {s : api_Side} {by_ : Nat} (hb : by_ ≤ 64) (ho : -1100000000000 ≤ s.Offset ∧ s.Offset ≤ 1100000000000) (hn : 0 < s.Counts.length) (hl : s.Counts.length ≤ 1000000) (hs : su s.Counts < 18446744073709551616) {u : UInt64} (hu : u.toNat = by_) :
    ∃ t, hist_down s u = some t ∧ Dn (2 ^ by_) s t := by
  have hP := p2 by_
  have hspan := span_eq hb ho hn hl hu
  unfold hist_down
  rw [bifFd (by omega), hspan, bind_some, hu, shrI_nat _ hb]
  have h1 := div_bd hP (b := 1200000000000) (by omega) (a := s.Offset + s.Counts.length - 1) (by omega)
  have h2 := div_bd hP (b := 1200000000000) (by omega) (a := s.Offset) (by omega)
  have hmono := ediv_mono hP (show s.Offset ≤ s.Offset + s.Counts.length - 1 by omega)
  have hlen2 : (s.Offset + s.Counts.length - 1) / 2 ^ by_ - s.Offset / 2 ^ by_ ≤ s.Counts.length - 1 := by
    have e1 := Int.mul_ediv_add_emod s.Offset (2 ^ by_)
    have e2 := Int.emod_nonneg s.Offset (show (2 : Int) ^ by_ ≠ 0 by omega)
    have h3 : (s.Offset + s.Counts.length - 1) / 2 ^ by_ < s.Offset / 2 ^ by_ + s.Counts.length := by
      rw [Int.ediv_lt_iff_lt_mul hP]
      have h4 : (s.Offset / 2 ^ by_ + s.Counts.length) * 2 ^ by_ = 2 ^ by_ * (s.Offset / 2 ^ by_) + s.Counts.length * 2 ^ by_ := by rw [Int.add_mul, Int.mul_comm (s.Offset / 2 ^ by_)]
      have h5 : (s.Counts.length : Int) * 1 ≤ s.Counts.length * 2 ^ by_ := Int.mul_le_mul_of_nonneg_left (by omega) (by omega)
      have h6 := Int.emod_lt_of_pos s.Offset hP
      rw [h4]
      have h7 : (s.Counts.length : Int) - 1 + s.Offset % 2 ^ by_ < s.Counts.length * 2 ^ by_ := by
        have h8 : ((s.Counts.length : Int) - 1) * 1 ≤ (s.Counts.length - 1) * 2 ^ by_ := Int.mul_le_mul_of_nonneg_left (by omega) (by omega)
        have h9 : ((s.Counts.length : Int) - 1) * 2 ^ by_ = s.Counts.length * 2 ^ by_ - 2 ^ by_ := by rw [Int.sub_mul, Int.one_mul]
        rw [h9, Int.mul_one] at h8; omega
      omega
    omega
  obtain ⟨m, hm⟩ : ∃ m : Nat, (s.Offset + s.Counts.length - 1) / 2 ^ by_ - s.Offset / 2 ^ by_ + 1 = (m : Int) := ⟨((s.Offset + s.Counts.length - 1) / 2 ^ by_ - s.Offset / 2 ^ by_ + 1).toNat, by omega⟩
  have hmk : mk ((s.Offset + s.Counts.length - 1) / 2 ^ by_ - s.Offset / 2 ^ by_ + 1) (0 : UInt64) = some (List.replicate m 0) := by
    unfold mk LIM
    rw [hm, if_pos (by omega)]; simp
  rw [hmk, bind_some, bind_some, bind_some]
  have key : ∀ (k x : Nat) (c : List UInt64), x + k = s.Counts.length → c.length = m → (∀ j : Nat, su (c.take j) = su ((s.Counts.take x).take (2 ^ by_ * (s.Offset / 2 ^ by_ + j) - s.Offset).toNat)) →
      ∃ c', loop (hist_down_lp1 s u) (c, (x : Int)) = some (.go c') ∧ c'.length = m ∧ (∀ j : Nat, su (c'.take j) = su (s.Counts.take (2 ^ by_ * (s.Offset / 2 ^ by_ + j) - s.Offset).toNat)) := by
    intro k
    induction k with
    | zero =>
      intro x c hx hc hinv
      obtain rfl : x = s.Counts.length := by omega
      refine ⟨c, loop_brk ?_, hc, fun j => by rw [hinv j, List.take_length]⟩
      unfold hist_down_lp1
      dsimp only
      rw [bifFd (by omega)]
    | succ k ih =>
      intro x c hx hc hinv
      have hlt : x < s.Counts.length := by omega
      have m1 := ediv_mono hP (show s.Offset ≤ s.Offset + x by omega)
      have m2 := ediv_mono hP (show s.Offset + x ≤ s.Offset + s.Counts.length - 1 by omega)
      obtain ⟨q, hq⟩ : ∃ q : Nat, (s.Offset + x) / 2 ^ by_ - s.Offset / 2 ^ by_ = (q : Int) := ⟨((s.Offset + x) / 2 ^ by_ - s.Offset / 2 ^ by_).toNat, by omega⟩
      have hqm : q < m := by omega
      have hql : q < c.length := by omega
      have hsum : (c[q]).toNat + (s.Counts[x]).toNat < 18446744073709551616 := by
        have a := su_get_le hql
        have b := hinv c.length
        rw [List.take_length] at b
        have d := su_take_le (s.Counts.take x) (2 ^ by_ * (s.Offset / 2 ^ by_ + (c.length : Int)) - s.Offset).toNat
        have e := su_take_succ hlt
        have f := su_take_le s.Counts (x + 1)
        omega
      have hr : hist_down_lp1 s u (c, (x : Int)) = some (.next (c.set q (c[q] + s.Counts[x]), ((x + 1 : Nat) : Int))) := by
        unfold hist_down_lp1
        dsimp only
        rw [bifTd (by omega), idx_nat hlt, bind_some, hu, shrI_nat _ hb, shrI_nat _ hb, w64_id (x := s.Offset + x) (by omega) (by omega), hq, w64_nat (by omega), idx_nat hql, bind_some, bind_some, lett_eq, setI_nat hql, bind_some, w64_succ (by omega)]
      obtain ⟨c', g1, g2, g3⟩ := ih (x + 1) (c.set q (c[q] + s.Counts[x])) (by omega) (by simpa using hc) (fun j => by
        rw [su_set hql _ hsum, hinv j]
        have hiff : q < j ↔ x < (2 ^ by_ * (s.Offset / 2 ^ by_ + j) - s.Offset).toNat := by
          have h3 : (s.Offset + x) / 2 ^ by_ < s.Offset / 2 ^ by_ + j ↔ s.Offset + x < (s.Offset / 2 ^ by_ + j) * 2 ^ by_ := Int.ediv_lt_iff_lt_mul hP
          rw [Int.mul_comm] at h3
          omega
        generalize (2 ^ by_ * (s.Offset / 2 ^ by_ + (j : Int)) - s.Offset).toNat = t at hiff
        by_cases hqj : q < j
        · have ht := hiff.1 hqj
          have e1 : (s.Counts.take x).take t = s.Counts.take x := List.take_of_length_le (by rw [List.length_take]; omega)
          have e2 : (s.Counts.take (x + 1)).take t = s.Counts.take (x + 1) := List.take_of_length_le (by rw [List.length_take]; omega)
          rw [if_pos hqj, e1, e2, su_take_succ hlt]
        · have ht : t ≤ x := by have := mt hiff.2 hqj; omega
          rw [if_neg hqj, List.take_take, List.take_take, Nat.min_eq_left ht, Nat.min_eq_left (by omega)]; omega)
      exact ⟨c', by rw [loop_next hr]; exact g1, g2, g3⟩
  obtain ⟨c', g1, g2, g3⟩ := key s.Counts.length 0 (List.replicate m 0) (by omega) (by simp) (fun j => by
    rw [List.take_zero, List.take_nil, List.take_replicate, su_zeros]; rfl)
  have g1' : loop (hist_down_lp1 s u) (List.replicate m 0, 0) = some (.go c') := g1
  rw [g1', flow_go]
  exact ⟨_, rfl, rfl, by dsimp only; omega, g3⟩
end Go.Lg
