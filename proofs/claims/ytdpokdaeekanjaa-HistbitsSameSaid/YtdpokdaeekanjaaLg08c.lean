/- Lemmas about the given model and about plain data, which the rows stand on: no statement of the program by itself. -/
import Derived.Test.YtdpokdaeekanjaaLg08b
set_option linter.unusedVariables false
namespace Go.Lg
attribute [local irreducible] w64 toU64 toU8 shlU shrU shlB shrB

theorem half_eq {i : Int} (h : -2000000000000 ≤ i ∧ i ≤ 2000000000000) : ref08_half i = some (i / 2) := by
  unfold ref08_half
  by_cases h0 : i < 0
  · obtain ⟨m, hm⟩ : ∃ m : Nat, 1 - i = (m : Int) := ⟨(1 - i).toNat, by omega⟩
    rw [bifTd h0, lett_eq, w64_id (x := 1 - i) (by omega) (by omega), hm, show (2 : Int) = ((2 : Nat) : Int) from rfl, tdivN, w64_nat (by omega), w64_id (by omega) (by omega)]
    congr 1; omega
  · obtain ⟨m, rfl⟩ : ∃ m : Nat, i = (m : Int) := ⟨i.toNat, by omega⟩
    rw [bifFd h0, lett_eq, show (2 : Int) = ((2 : Nat) : Int) from rfl, tdivN, w64_nat (by omega)]
    congr 1
theorem su_app1 (l : List UInt64) (x : UInt64) (j : Nat) : su ((l ++ [x]).take j) = su (l.take j) + if l.length < j then x.toNat else 0 := by
  by_cases h : l.length < j
  · rw [if_pos h, List.take_of_length_le (by simp; omega), List.take_of_length_le (by omega), su_snoc]
  · rw [if_neg h, List.take_append_of_le_length (by omega)]; rfl
theorem set_last {l : List UInt64} {q : Nat} (h : q + 1 = l.length) (x : UInt64) : l.take q ++ [x] = l.set q x := by
  apply List.ext_getElem?
  intro i
  rw [List.getElem?_set, List.getElem?_append, List.length_take]
  by_cases h1 : i < q
  · rw [if_pos (by omega), if_neg (by omega), List.getElem?_take, if_pos h1]
  · rw [if_neg (by omega)]
    by_cases h2 : q = i
    · subst h2; rw [if_pos rfl, if_pos (by omega)]; simp [show min q l.length = q by omega]
    · rw [if_neg h2, List.getElem?_eq_none (by simp; omega), List.getElem?_eq_none (by omega)]
theorem once_eq {s : api_Side} (ho : -1100000000000 ≤ s.Offset ∧ s.Offset ≤ 1100000000000) (hn : 0 < s.Counts.length) (hl : s.Counts.length ≤ 1000000) (hs : su s.Counts < 18446744073709551616) :
    ∃ t, ref08_once s = some t ∧ Dn 2 s t := by
  have key : ∀ (k i : Nat) (c : List UInt64), i + k = s.Counts.length → 1 ≤ i → (c.length : Int) = (s.Offset + i - 1) / 2 - s.Offset / 2 + 1 → (∀ j : Nat, su (c.take j) = su ((s.Counts.take i).take (2 * (s.Offset / 2 + j) - s.Offset).toNat)) →
      ∃ c', loop (ref08_once_lp1 s) (s.Offset / 2, c, (i : Int)) = some (.go (s.Offset / 2, c')) ∧ (c'.length : Int) = (s.Offset + s.Counts.length - 1) / 2 - s.Offset / 2 + 1 ∧ (∀ j : Nat, su (c'.take j) = su (s.Counts.take (2 * (s.Offset / 2 + j) - s.Offset).toNat)) := by
    intro k
    induction k with
    | zero =>
      intro i c hi _ hc hinv
      obtain rfl : i = s.Counts.length := by omega
      refine ⟨c, loop_brk ?_, hc, fun j => by rw [hinv j, List.take_length]⟩
      unfold ref08_once_lp1
      dsimp only
      rw [bifFd (by omega)]
    | succ k ih =>
      intro i c hi h1 hc hinv
      have hlt : i < s.Counts.length := by omega
      have hcl : 0 < c.length := by omega
      have hclb : c.length ≤ 1000000 := by omega
      have hiff : ∀ (q j : Nat), (s.Offset + i) / 2 - s.Offset / 2 = (q : Int) → (q < j ↔ i < (2 * (s.Offset / 2 + j) - s.Offset).toNat) := by
        intro q j hq; omega
      have hstep : ∀ c2 : List UInt64, (∃ q : Nat, (s.Offset + i) / 2 - s.Offset / 2 = (q : Int) ∧ ∀ j : Nat, su (c2.take j) = su (c.take j) + if q < j then (s.Counts[i]).toNat else 0) →
          ∀ j : Nat, su (c2.take j) = su ((s.Counts.take (i + 1)).take (2 * (s.Offset / 2 + j) - s.Offset).toNat) := by
        rintro c2 ⟨q, hq, hc2⟩ j
        rw [hc2, hinv j]
        have hi2 := hiff q j hq
        generalize (2 * (s.Offset / 2 + (j : Int)) - s.Offset).toNat = t at hi2
        by_cases hqj : q < j
        · have ht := hi2.1 hqj
          have e1 : (s.Counts.take i).take t = s.Counts.take i := List.take_of_length_le (by rw [List.length_take]; omega)
          have e2 : (s.Counts.take (i + 1)).take t = s.Counts.take (i + 1) := List.take_of_length_le (by rw [List.length_take]; omega)
          rw [if_pos hqj, e1, e2, su_take_succ hlt]
        · have ht : t ≤ i := by have := mt hi2.2 hqj; omega
          rw [if_neg hqj, List.take_take, List.take_take, Nat.min_eq_left ht, Nat.min_eq_left (by omega)]; omega
      have B1 : i + 1 < 9223372036854775808 := by omega
      have E1 : w64 (s.Offset + (i : Int)) = s.Offset + i := w64_id (by omega) (by omega)
      have E2 : w64 ((w64 (s.Offset / 2 + (c.length : Int))) - 1) = s.Offset / 2 + c.length - 1 := by rw [w64_id (x := s.Offset / 2 + (c.length : Int)) (by omega) (by omega), w64_id (by omega) (by omega)]
      by_cases hsame : (s.Offset + i) / 2 = s.Offset / 2 + c.length - 1
      · obtain ⟨q, hq⟩ : ∃ q : Nat, q + 1 = c.length := ⟨c.length - 1, by omega⟩
        have hql : q < c.length := by omega
        have hsum : (c[q]).toNat + (s.Counts[i]).toNat < 18446744073709551616 := by
          have a := su_get_le hql
          have b := hinv c.length
          rw [List.take_length] at b
          have d := su_take_le (s.Counts.take i) (2 * (s.Offset / 2 + (c.length : Int)) - s.Offset).toNat
          have e := su_take_succ hlt
          have f := su_take_le s.Counts (i + 1)
          clear hinv hstep hiff E1 E2
          omega
        have hr : ref08_once_lp1 s (s.Offset / 2, c, (i : Int)) = some (.next (s.Offset / 2, c.set q (c[q] + s.Counts[i]), ((i + 1 : Nat) : Int))) := by
          have E3 : w64 ((c.length : Int) - 1) = (q : Int) := by rw [w64_id (by omega) (by omega)]; omega
          unfold ref08_once_lp1
          dsimp only
          rw [bifTd (by omega), E1, half_eq (by omega), bind_some, bifFd (by omega), E2, bifTd hsame, lett_eq, E3, idx_nat hql, bind_some, idx_nat hlt, bind_some, lett_eq, show (0 : Int) = ((0 : Nat) : Int) from rfl, slc_nat (by omega) (by omega), bind_some, List.drop_zero,
            app_ok (by simp; omega), bind_some, List.nil_append, app_ok (by simp; omega), bind_some, bind_some]
          dsimp only
          rw [lett_eq, w64_succ B1, set_last hq]
        obtain ⟨c', g1, g2, g3⟩ := ih (i + 1) _ (by omega) (by omega) (by rw [List.length_set]; omega) (hstep _ ⟨q, by omega, fun j => su_set hql _ hsum j⟩)
        exact ⟨c', by rw [loop_next hr, g1], g2, g3⟩
      · have hr : ref08_once_lp1 s (s.Offset / 2, c, (i : Int)) = some (.next (s.Offset / 2, c ++ [s.Counts[i]], ((i + 1 : Nat) : Int))) := by
          unfold ref08_once_lp1
          dsimp only
          rw [bifTd (by omega), E1, half_eq (by omega), bind_some, bifFd (by omega), E2, bifFd hsame, idx_nat hlt, bind_some, app_ok (by simp; omega), bind_some, bind_some]
          dsimp only
          rw [lett_eq, w64_succ B1]
        obtain ⟨c', g1, g2, g3⟩ := ih (i + 1) _ (by omega) (by omega) (by rw [List.length_append, List.length_singleton]; omega) (hstep _ ⟨c.length, by omega, fun j => su_app1 _ _ j⟩)
        exact ⟨c', by rw [loop_next hr, g1], g2, g3⟩
  have hr0 : ref08_once_lp1 s (0, [], ((0 : Nat) : Int)) = some (.next (s.Offset / 2, [s.Counts[0]], ((1 : Nat) : Int))) := by
    unfold ref08_once_lp1
    dsimp only
    rw [bifTd (by omega), show s.Offset + ((0 : Nat) : Int) = s.Offset by omega, w64_id (by omega) (by omega), half_eq (by omega), bind_some, bifTd (by simp), idx_nat hn, bind_some, bind_some]
    dsimp only
    rw [lett_eq, w64_succ (by omega)]
  obtain ⟨c', g1, g2, g3⟩ := key (s.Counts.length - 1) 1 [s.Counts[0]] (by omega) (by omega) (by simp only [List.length_singleton]; omega) (fun j => by
    have e1 : s.Counts.take 1 = [s.Counts[0]] := by rw [show (1 : Nat) = 0 + 1 from rfl, take_snoc hn]; rfl
    rw [e1]
    by_cases hj : j = 0
    · subst hj
      have : (2 * (s.Offset / 2 + ((0 : Nat) : Int)) - s.Offset).toNat = 0 := by omega
      rw [this]
    · rw [List.take_of_length_le (by simp; omega), List.take_of_length_le (by simp; omega)])
  refine ⟨⟨s.Offset / 2, c'⟩, ?_, rfl, g2, g3⟩
  unfold ref08_once
  have hr0' : ref08_once_lp1 s (0, [], 0) = _ := hr0
  rw [loop_next hr0', g1, flow_go]

/-! ### ends that are nought -/
def zl : List UInt64 → Nat
  | [] => 0
  | x :: l => if x = 0 then 1 + zl l else 0
theorem zl_le : ∀ l : List UInt64, zl l ≤ l.length
  | [] => by simp [zl]
  | x :: l => by have := zl_le l; rw [zl]; split <;> simp <;> omega
theorem zl_at (l : List UInt64) (h : zl l < l.length) : l[zl l] ≠ 0 := by
  induction l with
  | nil => simp at h
  | cons x l ih =>
    simp only [zl] at h ⊢
    by_cases hx : x = 0
    · simp only [if_pos hx] at h ⊢
      have := ih (by simp at h; omega)
      simpa [Nat.add_comm 1] using this
    · simp only [if_neg hx]; simpa using hx
/-- how many stay when noughts behind place a are struck, from place n down -/
def kl (l : List UInt64) (a : Nat) : Nat → Nat
  | 0 => 0
  | n + 1 => if a < n + 1 ∧ l.getD n 0 = 0 then kl l a n else n + 1
theorem kl_le (l : List UInt64) (a : Nat) : ∀ n, kl l a n ≤ n
  | 0 => Nat.le_refl _
  | n + 1 => by rw [kl]; have := kl_le l a n; split <;> omega
theorem kl_gt {l : List UInt64} {a : Nat} (ha : l.getD a 0 ≠ 0) : ∀ n, a < n → a < kl l a n
  | 0, h => by omega
  | n + 1, h => by
    rw [kl]
    by_cases hn : n = a
    · subst hn; rw [if_neg (fun h => ha h.2)]; omega
    · split
      · exact kl_gt ha n (by omega)
      · omega
def trimS (s : api_Side) : api_Side :=
  if zl s.Counts = s.Counts.length then ⟨0, []⟩ else ⟨s.Offset + zl s.Counts, (s.Counts.take (kl s.Counts (zl s.Counts) s.Counts.length)).drop (zl s.Counts)⟩
theorem trim_front {s : api_Side} (hl : s.Counts.length ≤ 1000000) : ∀ (m i : Nat), i + m = s.Counts.length → loop (hist_Trim_lp1 s (s.Counts.length : Int)) (i : Int) = some (.go ((i + zl (s.Counts.drop i) : Nat) : Int)) := by
  intro m
  induction m with
  | zero =>
    intro i hi
    obtain rfl : i = s.Counts.length := by omega
    refine loop_brk ?_
    unfold hist_Trim_lp1
    rw [bifFd (by omega), bind_some, cond_false, List.drop_length]; rfl
  | succ m ih =>
    intro i hi
    have hlt : i < s.Counts.length := by omega
    rw [List.drop_eq_getElem_cons hlt, zl]
    by_cases h0 : s.Counts[i] = 0
    · rw [if_pos h0, loop_next (s' := ((i + 1 : Nat) : Int)), ih (i + 1) (by omega)]
      · congr 3; omega
      · unfold hist_Trim_lp1
        rw [bifTd (by omega), idx_nat hlt, bind_some, bind_some, bifTd h0, lett_eq, w64_succ (by omega)]
    · rw [if_neg h0]
      refine loop_brk ?_
      unfold hist_Trim_lp1
      rw [bifTd (by omega), idx_nat hlt, bind_some, bind_some, bifFd h0]; rfl
theorem trim_back {s : api_Side} (hl : s.Counts.length ≤ 1000000) (a : Nat) : ∀ n, n ≤ s.Counts.length → loop (hist_Trim_lp2 s (a : Int)) (n : Int) = some (.go ((kl s.Counts a n : Nat) : Int)) := by
  intro n
  induction n with
  | zero =>
    intro _
    refine loop_brk ?_
    unfold hist_Trim_lp2
    rw [bifFd (by omega), bind_some, cond_false]; rfl
  | succ n ih =>
    intro hn
    have e1 : w64 (((n + 1 : Nat) : Int) - 1) = (n : Int) := by rw [w64_id (by omega) (by omega)]; omega
    rw [kl]
    by_cases h : a < n + 1
    · by_cases h0 : s.Counts.getD n 0 = 0
      · rw [if_pos ⟨h, h0⟩, loop_next (s' := (n : Int)), ih (by omega)]
        unfold hist_Trim_lp2
        rw [getD_lt (by omega)] at h0
        rw [bifTd (by omega), e1, idx_nat (by omega), bind_some, bind_some, bifTd h0, lett_eq]
      · rw [if_neg (fun h => h0 h.2)]
        refine loop_brk ?_
        unfold hist_Trim_lp2
        rw [getD_lt (by omega)] at h0
        rw [bifTd (by omega), e1, idx_nat (by omega), bind_some, bind_some, bifFd h0]
    · rw [if_neg (fun h' => h h'.1)]
      refine loop_brk ?_
      unfold hist_Trim_lp2
      rw [bifFd (by omega), bind_some, cond_false]
theorem Trim_eq {s : api_Side} (ho : -1100000000000 ≤ s.Offset ∧ s.Offset ≤ 1100000000000) (hl : s.Counts.length ≤ 1000000) : hist_Trim s = some (trimS s) := by
  have hz := zl_le s.Counts
  have f1 := trim_front hl s.Counts.length 0 (by omega)
  rw [List.drop_zero, Nat.zero_add] at f1
  have f1' : loop (hist_Trim_lp1 s (s.Counts.length : Int)) 0 = _ := f1
  have f2 := trim_back hl (zl s.Counts) s.Counts.length (Nat.le_refl _)
  have hk := kl_le s.Counts (zl s.Counts) s.Counts.length
  unfold hist_Trim trimS
  rw [lett_eq, f1', flow_go, bind_some, f2, flow_go, bind_some]
  by_cases h : zl s.Counts = s.Counts.length
  · have hkz : kl s.Counts (zl s.Counts) s.Counts.length = zl s.Counts := by
      cases hn : s.Counts.length with
      | zero => rw [h, hn]; rfl
      | succ n => rw [kl, if_neg (by omega)]; omega
    rw [if_pos h, bifTd (by omega)]
  · have h0 := zl_at s.Counts (by omega)
    have hgt := kl_gt (l := s.Counts) (a := zl s.Counts) (by rw [getD_lt (by omega)]; exact h0) s.Counts.length (by omega)
    rw [if_neg h, bifFd (by omega), slc_nat (by omega) hk, bind_some]
    unfold slices_Clone_uint64_uint64
    rw [app_ok (by simp; omega), bind_some, List.nil_append, w64_id (by omega) (by omega)]
theorem rtrim_front : ∀ (l : List UInt64) (a : Int), -1200000000000 ≤ a ∧ a + l.length ≤ 1200000000000 → l.length ≤ 1000000 → loop ref08_Trim_lp1 (l, a) = some (.go (l.drop (zl l), a + zl l)) := by
  intro l
  induction l with
  | nil =>
    intro a _ _
    refine loop_brk ?_
    unfold ref08_Trim_lp1
    dsimp only
    rw [bifFd (by simp), bind_some, cond_false]
    simp [zl]
  | cons x l ih =>
    intro a ha hl
    simp only [List.length_cons] at ha hl
    rw [zl]
    by_cases h0 : x = 0
    · rw [if_pos h0, loop_next (s' := (l, a + 1)), ih (a + 1) (by omega) (by omega)]
      · rw [Nat.add_comm 1, List.drop_succ_cons]
        congr 3; omega
      · unfold ref08_Trim_lp1
        dsimp only
        rw [bifTd (by simp only [List.length_cons]; omega), idx_0 (by simp), bind_some, bind_some, bifTd (by simpa using h0), show (1 : Int) = ((1 : Nat) : Int) from rfl, slc_nat (by simp) (Nat.le_refl _), bind_some, lett_eq, List.take_length, w64_id (by omega) (by omega)]
        rfl
    · rw [if_neg h0]
      refine loop_brk ?_
      unfold ref08_Trim_lp1
      dsimp only
      rw [bifTd (by simp only [List.length_cons]; omega), idx_0 (by simp), bind_some, bind_some, bifFd (by simpa using h0)]
      simp
theorem rtrim_back (l : List UInt64) (hl : l.length ≤ 1000000) : ∀ n, n ≤ l.length → loop ref08_Trim_lp2 (l.take n) = some (.go (l.take (kl l 0 n))) := by
  intro n
  induction n with
  | zero =>
    intro _
    refine loop_brk ?_
    unfold ref08_Trim_lp2
    rw [List.take_zero, bifFd (by simp), bind_some, cond_false]; rfl
  | succ n ih =>
    intro hn
    have hlen : (l.take (n + 1)).length = n + 1 := by rw [List.length_take]; omega
    have e1 : w64 (((l.take (n + 1)).length : Int) - 1) = (n : Int) := by rw [hlen, w64_id (by omega) (by omega)]; omega
    have hg : (l.take (n + 1))[n]'(by omega) = l[n]'(by omega) := by simp
    rw [kl]
    by_cases h0 : l.getD n 0 = 0
    · rw [if_pos ⟨by omega, h0⟩, loop_next (s' := l.take n), ih (by omega)]
      unfold ref08_Trim_lp2
      rw [getD_lt (by omega)] at h0
      rw [bifTd (by omega), e1, idx_nat (by omega), hg, bind_some, bind_some, bifTd h0, show (0 : Int) = ((0 : Nat) : Int) from rfl, slc_nat (by omega) (by omega), bind_some, List.drop_zero, List.take_take, Nat.min_eq_left (by omega)]
    · rw [if_neg (fun h => h0 h.2)]
      refine loop_brk ?_
      unfold ref08_Trim_lp2
      rw [getD_lt (by omega)] at h0
      rw [bifTd (by omega), e1, idx_nat (by omega), hg, bind_some, bind_some, bifFd h0]
theorem kl_drop (l : List UInt64) (a : Nat) : ∀ n, a + n ≤ l.length → kl l a (a + n) = a + kl (l.drop a) 0 n
  | 0, h => by
    cases a with
    | zero => rfl
    | succ a =>
      show kl l (a + 1) (a + 1) = a + 1
      rw [kl, if_neg (by omega)]
  | n + 1, h => by
    rw [← Nat.add_assoc, kl, kl]
    have hd : l.getD (a + n) 0 = (l.drop a).getD n 0 := by rw [getD_lt (by omega), getD_lt (by simp; omega)]; simp
    rw [hd, kl_drop l a n (by omega)]
    by_cases h0 : (l.drop a).getD n 0 = 0
    · rw [if_pos ⟨by omega, h0⟩, if_pos ⟨by omega, h0⟩]
    · rw [if_neg (fun h => h0 h.2), if_neg (fun h => h0 h.2)]; omega
theorem RTrim_eq {s : api_Side} (ho : -1100000000000 ≤ s.Offset ∧ s.Offset ≤ 1100000000000) (hl : s.Counts.length ≤ 1000000) : ref08_Trim s = some (trimS s) := by
  have hz := zl_le s.Counts
  have f1 := rtrim_front s.Counts s.Offset (by omega) hl
  have hdl : (s.Counts.drop (zl s.Counts)).length = s.Counts.length - zl s.Counts := List.length_drop
  have f2 := rtrim_back (s.Counts.drop (zl s.Counts)) (by omega) (s.Counts.drop (zl s.Counts)).length (Nat.le_refl _)
  rw [List.take_length, hdl] at f2
  have hk := kl_drop s.Counts (zl s.Counts) (s.Counts.length - zl s.Counts) (by omega)
  rw [show zl s.Counts + (s.Counts.length - zl s.Counts) = s.Counts.length by omega] at hk
  have hkl := kl_le (s.Counts.drop (zl s.Counts)) 0 (s.Counts.length - zl s.Counts)
  unfold ref08_Trim trimS
  rw [f1, flow_go, bind_some]
  dsimp only
  rw [f2, flow_go, bind_some]
  have htl : ((s.Counts.drop (zl s.Counts)).take (kl (s.Counts.drop (zl s.Counts)) 0 (s.Counts.length - zl s.Counts))).length = kl (s.Counts.drop (zl s.Counts)) 0 (s.Counts.length - zl s.Counts) := by rw [List.length_take]; omega
  by_cases h : zl s.Counts = s.Counts.length
  · rw [if_pos h, bifTd (by rw [htl]; omega)]
  · have h0 := zl_at s.Counts (by omega)
    have hgt := kl_gt (l := s.Counts) (a := zl s.Counts) (by rw [getD_lt (by omega)]; exact h0) s.Counts.length (by omega)
    rw [if_neg h, bifFd (by rw [htl]; omega), app_ok (by rw [htl]; simp; omega), bind_some, List.nil_append, hk, List.drop_take]
    congr 3; omega
theorem trim_right {s : api_Side} (h : sideE s = 0) : trimS s = s := by
  unfold sideE at h
  by_cases h1 : 160 < s.Counts.length
  · rw [if_pos h1] at h; exact absurd h (by decide)
  rw [if_neg h1] at h
  by_cases h2 : s.Counts.length = 0
  · rw [if_pos h2] at h
    by_cases h3 : s.Offset = 0
    · have hc : s.Counts = [] := List.eq_nil_of_length_eq_zero h2
      unfold trimS
      rw [hc]
      obtain ⟨o, c⟩ := s
      simp only at h3 hc; subst h3; subst hc; rfl
    · rw [if_neg h3] at h; exact absurd h (by decide)
  rw [if_neg h2] at h
  by_cases h3 : s.Counts.getD 0 0 = 0 ∨ s.Counts.getD (s.Counts.length - 1) 0 = 0
  · rw [if_pos h3] at h; exact absurd h (by decide)
  have hz : zl s.Counts = 0 := by
    match hc : s.Counts with
    | [] => rfl
    | x :: l => rw [hc] at h3; rw [zl, if_neg (by simpa using fun e => h3 (.inl e))]
  have hk : kl s.Counts 0 s.Counts.length = s.Counts.length := by
    match hn : s.Counts.length with
    | 0 => rfl
    | n + 1 => rw [kl, if_neg (fun h' => h3 (.inr (by rw [hn]; exact h'.2)))]
  unfold trimS
  rw [if_neg (by omega), hz, hk, List.take_length]
  obtain ⟨o, c⟩ := s
  simp
end Go.Lg
