/- Lemmas about the given model and about plain data, which the rows stand on: no statement of the program by itself. -/
import Derived.Test.YtdpokdaeekanjaaLg09b
set_option linter.unusedVariables false
namespace Go.Lg
attribute [local irreducible] w64 toU64 toU8 shlU shrU shlB shrB

/-! ### without empty ends -/
theorem zl_lt : ∀ (l : List UInt64) (j : Nat), j < zl l → l.getD j 0 = 0
  | [], j, h => by simp [zl] at h
  | x :: l, j, h => by
    rw [zl] at h
    split at h
    · rename_i hx
      cases j with
      | zero => simpa using hx
      | succ j => have := zl_lt l j (by omega); simpa using this
    · omega
theorem kl_ge {l : List UInt64} {a : Nat} : ∀ n j, kl l a n ≤ j → j < n → l.getD j 0 = 0
  | 0, j, h, h' => by omega
  | n + 1, j, h, h' => by
    rw [kl] at h
    split at h
    · rename_i hx
      by_cases e : j = n
      · rw [e]; exact hx.2
      · exact kl_ge n j h (by omega)
    · omega
theorem kl_last {l : List UInt64} {a : Nat} : ∀ n, a < kl l a n → l.getD (kl l a n - 1) 0 ≠ 0
  | 0, h => by simp [kl] at h
  | n + 1, h => by
    rw [kl] at h ⊢
    split
    · rename_i hx; rw [if_pos hx] at h; exact kl_last n h
    · rename_i hx
      rw [if_neg hx] at h
      intro e
      exact hx ⟨h, by simpa using e⟩
theorem atS_getD {s : api_Side} {i : Int} (h : s.Offset ≤ i) : atS s i = s.Counts.getD (i - s.Offset).toNat 0 := by unfold atS; rw [if_pos h]
theorem trim_at (s : api_Side) (i : Int) : atS (trimS s) i = atS s i := by
  have z1 := zl_le s.Counts
  unfold trimS
  by_cases h : zl s.Counts = s.Counts.length
  · rw [if_pos h, atS_empty rfl]
    by_cases hi : s.Offset ≤ i
    · rw [atS_getD hi]
      by_cases hj : (i - s.Offset).toNat < s.Counts.length
      · rw [zl_lt _ _ (by omega)]
      · rw [List.getD_eq_getElem?_getD, List.getElem?_eq_none (by omega)]; rfl
    · rw [atS_out (.inl (by omega))]
  · rw [if_neg h]
    have k1 := kl_le s.Counts (zl s.Counts) s.Counts.length
    have hz := zl_at s.Counts (by omega)
    have k2 := kl_gt (l := s.Counts) (a := zl s.Counts) (by rw [getD_lt (by omega)]; exact hz) s.Counts.length (by omega)
    by_cases hi : s.Offset + zl s.Counts ≤ i
    · rw [atS_getD hi, atS_getD (by omega)]
      dsimp only
      rw [List.getD_eq_getElem?_getD, List.getElem?_drop, List.getElem?_take]
      rw [show zl s.Counts + (i - (s.Offset + zl s.Counts)).toNat = (i - s.Offset).toNat by omega]
      split
      · rw [List.getD_eq_getElem?_getD]
      · by_cases hj : (i - s.Offset).toNat < s.Counts.length
        · rw [kl_ge (a := zl s.Counts) s.Counts.length _ (by omega) hj]; rfl
        · rw [List.getD_eq_getElem?_getD, List.getElem?_eq_none (by omega)]
    · rw [atS_out (.inl (by dsimp only; omega))]
      by_cases hi : s.Offset ≤ i
      · rw [atS_getD hi, zl_lt _ _ (by omega)]
      · rw [atS_out (.inl (by omega))]
theorem trim_tr (s : api_Side) : Tr (trimS s) := by
  have z1 := zl_le s.Counts
  by_cases h : zl s.Counts = s.Counts.length
  · have e : trimS s = ⟨0, []⟩ := by unfold trimS; rw [if_pos h]
    rw [e]
    exact ⟨fun _ => rfl, fun h => by simp at h, fun h => by simp at h⟩
  · have k1 := kl_le s.Counts (zl s.Counts) s.Counts.length
    have hz := zl_at s.Counts (by omega)
    have k2 := kl_gt (l := s.Counts) (a := zl s.Counts) (by rw [getD_lt (by omega)]; exact hz) s.Counts.length (by omega)
    have k3 := kl_last (l := s.Counts) (a := zl s.Counts) s.Counts.length k2
    have e : trimS s = ⟨s.Offset + zl s.Counts, (s.Counts.take (kl s.Counts (zl s.Counts) s.Counts.length)).drop (zl s.Counts)⟩ := by unfold trimS; rw [if_neg h]
    have el : (trimS s).Counts.length = kl s.Counts (zl s.Counts) s.Counts.length - zl s.Counts := by rw [e]; simp only [List.length_drop, List.length_take]; omega
    have eo : (trimS s).Offset = s.Offset + zl s.Counts := by rw [e]
    refine ⟨fun h => by omega, fun _ => ?_, fun _ => ?_⟩
    · rw [trim_at, eo, atS_getD (by omega), show (s.Offset + (zl s.Counts : Int) - s.Offset).toNat = zl s.Counts by omega, getD_lt (by omega)]; exact hz
    · rw [trim_at, el, eo, atS_getD (by omega), show (s.Offset + (zl s.Counts : Int) + ((kl s.Counts (zl s.Counts) s.Counts.length - zl s.Counts : Nat) : Int) - 1 - s.Offset).toNat = kl s.Counts (zl s.Counts) s.Counts.length - 1 by omega]
      exact k3

/-! ### the document's way to put together -/
theorem RAt_eq {s : api_Side} (h : RightS s) {i : Int} (hi : -2000000000 ≤ i ∧ i ≤ 2000000000) : ref09_At s i = some (atS s i) := by
  have o := h.off; have l := h.len
  have e : w64 (s.Offset + s.Counts.length) = s.Offset + s.Counts.length := w64_id (by omega) (by omega)
  unfold ref09_At
  rw [e]
  by_cases hin : s.Offset ≤ i ∧ i < s.Offset + s.Counts.length
  · have e2 : w64 (i - s.Offset) = ((i - s.Offset).toNat : Int) := by rw [w64_id] <;> omega
    rw [bifF (by rw [Bool.or_eq_false_iff]; exact ⟨decide_eq_false (by omega), decide_eq_false (by omega)⟩), e2, idx_nat (by omega), bind_some, atS_getD hin.1, getD_lt (by omega)]
  · rw [bifT (by rw [Bool.or_eq_true, decide_eq_true_eq, decide_eq_true_eq]; omega), atS_out (by omega)]
theorem reach_eq {x y : api_Side} (hx : RightS x) (hy : RightS y) : ref09_reach x y = some (if loS x y = hiS x y then (0, 0, false) else (loS x y, hiS x y - 1, true)) := by
  have c := cov hx hy
  have hxo := hx.off; have hyo := hy.off; have l1 := hx.len; have l2 := hy.len
  unfold ref09_reach
  by_cases h : x.Counts.length = 0 ∧ y.Counts.length = 0
  · rw [bifT (by simp [h.1, h.2]), if_pos (c.z.2 h)]
  · rw [bifF (by rw [← Bool.decide_and]; exact decide_eq_false (by omega)), if_neg (fun e => h (c.z.1 e))]
    have ex : w64 (x.Offset + x.Counts.length) = x.Offset + x.Counts.length := w64_id (by omega) (by omega)
    have ey : w64 (y.Offset + y.Counts.length) = y.Offset + y.Counts.length := w64_id (by omega) (by omega)
    by_cases h1 : x.Counts.length = 0
    · rw [bifTd (by omega), bind_some]
      dsimp only
      rw [bifFd (by omega), bind_some]
      dsimp only
      rw [lett_eq, lett_eq, ey, w64_id (by omega) (by omega)]
      unfold loS hiS
      rw [if_pos h1, if_pos h1]
      congr 2 <;> (try congr 1) <;> omega
    · rw [bifFd (by omega), bind_some]
      dsimp only
      by_cases h2 : y.Counts.length = 0
      · rw [bifTd (by omega), bind_some]
        dsimp only
        rw [lett_eq, lett_eq, ex, w64_id (by omega) (by omega)]
        unfold loS hiS
        rw [if_neg h1, if_pos h2, if_neg h1, if_pos h2]
        congr 2 <;> (try congr 1) <;> omega
      · rw [bifFd (by omega), bind_some]
        dsimp only
        rw [lett_eq, lett_eq, ex, ey, w64_id (by omega) (by omega)]
        unfold loS hiS
        rw [if_neg h1, if_neg h2, if_neg h1, if_neg h2]
theorem both_eq {x y : api_Side} (hx : RightS x) (hy : RightS y) : ref09_both x y = some (if 160 < widthS x y then (⟨0, []⟩, false) else (mergeS x y, true)) := by
  have c := cov hx hy
  have cb := c.b
  have cle := c.le
  have hw : (widthS x y : Int) = hiS x y - loS x y := by unfold widthS; omega
  unfold ref09_both
  rw [reach_eq hx hy, bind_some]
  by_cases h0 : loS x y = hiS x y
  · rw [if_pos h0, if_neg (by omega)]
    dsimp only
    rw [bifT (by rfl)]
    unfold mergeS
    rw [if_pos (by omega)]
  · rw [if_neg h0]
    dsimp only
    rw [bifF (by rfl), w64_id (x := hiS x y - 1 - loS x y) (by omega) (by omega)]
    by_cases h1 : 160 < widthS x y
    · rw [if_pos h1, bifTd (by omega)]
    · rw [if_neg h1, bifFd (by omega)]
      have key : ∀ (m i : Nat), i + m = widthS x y → loop (ref09_both_lp1 x y (hiS x y - 1)) (onL (addS x y) (loS x y) i, loS x y + (i : Int)) = some (.go (onL (addS x y) (loS x y) (widthS x y))) := by
        intro m
        induction m with
        | zero =>
          intro i hi
          obtain rfl : i = widthS x y := by omega
          refine loop_brk ?_
          unfold ref09_both_lp1
          dsimp only
          rw [bifFd (by omega)]
        | succ m ih =>
          intro i hi
          rw [← ih (i + 1) (by omega)]
          refine loop_next ?_
          have hb : addS x y (loS x y + i) = atS x (loS x y + i) + atS y (loS x y + i) := rfl
          unfold ref09_both_lp1
          dsimp only
          rw [bifTd (by omega), RAt_eq hx (by omega), bind_some, RAt_eq hy (by omega), bind_some, app_ok (by rw [onL_len]; simp; omega), bind_some, lett_eq, onL_succ, hb, w64_id (x := loS x y + (i : Int) + 1) (by omega) (by omega), show loS x y + (i : Int) + 1 = loS x y + ((i + 1 : Nat) : Int) by omega]
      have k0 := key (widthS x y) 0 (by omega)
      rw [show loS x y + ((0 : Nat) : Int) = loS x y by omega] at k0
      have k0' : loop (ref09_both_lp1 x y (hiS x y - 1)) ([], loS x y) = _ := k0
      rw [k0', flow_go]
      unfold mergeS
      rw [if_neg (by omega)]
theorem u_lt {m n : Nat} (hm : m < 18446744073709551616) (hn : n < 18446744073709551616) : ((18446744073709551615 : UInt64) - UInt64.ofNat n < UInt64.ofNat m) ↔ 18446744073709551616 ≤ m + n := by
  have em : (UInt64.ofNat m).toNat = m := by rw [UInt64.toNat_ofNat']; omega
  have en : (UInt64.ofNat n).toNat = n := by rw [UInt64.toNat_ofNat']; omega
  have e9 : (18446744073709551615 : UInt64).toNat = 18446744073709551615 := rfl
  rw [UInt64.lt_iff_toNat_lt, UInt64.toNat_sub, em, en, e9]; omega
theorem RMerge_lev {a b x y : api_Hist} (h : ref09_Level a b = some ⟨x, y, 0⟩) (gx : Good x) (gy : Good y) : ref09_Merge a b = some (mergeE x y) := by
  unfold ref09_Merge
  rw [h, bind_some]
  dsimp only
  rw [bifF (by rfl), refTotal_eq gx.ok.pl gx.ok.nl, if_pos gx.t, bind_some]
  dsimp only
  rw [refTotal_eq gy.ok.pl gy.ok.nl, if_pos gy.t, bind_some]
  dsimp only
  unfold mergeE
  by_cases h1 : 18446744073709551616 ≤ tot x + tot y
  · rw [if_pos h1, bifTd ((u_lt gx.t gy.t).2 h1)]; rfl
  · rw [if_neg h1, bifFd (fun e => h1 ((u_lt gx.t gy.t).1 e)), both_eq gx.p gy.p, both_eq gx.n gy.n, bind_some]
    by_cases h2 : 160 < widthS x.Pos y.Pos
    · rw [if_pos h2, if_pos (Or.inl h2 : 160 < widthS x.Pos y.Pos ∨ 160 < widthS x.Neg y.Neg)]
      dsimp only
      rw [bind_some]
      generalize (if 160 < widthS x.Neg y.Neg then ((⟨0, []⟩ : api_Side), false) else (mergeS x.Neg y.Neg, true)) = p
      obtain ⟨p, q⟩ := p
      rfl
    · rw [if_neg h2]
      dsimp only
      rw [bind_some]
      by_cases h3 : 160 < widthS x.Neg y.Neg
      · rw [if_pos h3, if_pos (Or.inr h3 : 160 < widthS x.Pos y.Pos ∨ 160 < widthS x.Neg y.Neg)]; rfl
      · rw [if_neg h3, if_neg (by omega)]; rfl
end Go.Lg
