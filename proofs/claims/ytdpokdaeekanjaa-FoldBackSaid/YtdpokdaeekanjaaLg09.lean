/- Lemmas about the given model and about plain data, which the rows stand on: no statement of the program by itself. -/
import Derived.Test.YtdpokdaeekanjaaLgFoldP
import Derived.Test.YtdpokdaeekanjaaLg08e
set_option linter.unusedVariables false
namespace Go.Lg
attribute [local irreducible] w64 toU64 toU8 shlU shrU shlB shrB

/-! ### buckets -/
theorem atS_empty {s : api_Side} (h : s.Counts.length = 0) (i : Int) : atS s i = 0 := by
  unfold atS
  split
  · rw [List.getD_eq_getElem?_getD, List.getElem?_eq_none (by omega)]; rfl
  · rfl
theorem atS_out {s : api_Side} {i : Int} (h : i < s.Offset ∨ s.Offset + s.Counts.length ≤ i) : atS s i = 0 := by
  unfold atS
  split
  · rw [List.getD_eq_getElem?_getD, List.getElem?_eq_none (by omega)]; rfl
  · rfl
theorem atS_in {s : api_Side} {k : Nat} (h : k < s.Counts.length) : atS s (s.Offset + k) = s.Counts[k] := by
  unfold atS
  rw [if_pos (by omega), show (s.Offset + (k : Int) - s.Offset).toNat = k by omega, getD_lt h]
theorem atS_le (s : api_Side) (i : Int) : (atS s i).toNat ≤ su s.Counts := by
  have a := atS_su s i
  have b := su_take_le s.Counts (i + 1 - s.Offset).toNat
  omega
/-- none of its ends is empty -/
structure Tr (s : api_Side) : Prop where
  z : s.Counts.length = 0 → s.Offset = 0
  f : 0 < s.Counts.length → atS s s.Offset ≠ 0
  e : 0 < s.Counts.length → atS s (s.Offset + s.Counts.length - 1) ≠ 0
theorem RightS.tr {s : api_Side} (h : RightS s) : Tr s := by
  refine ⟨h.z, fun hp => ?_, fun hp => ?_⟩
  · have := atS_in (s := s) (k := 0) hp
    rw [show s.Offset + ((0 : Nat) : Int) = s.Offset by omega] at this
    rw [this]; exact h.f hp
  · have := atS_in (s := s) (k := s.Counts.length - 1) (by omega)
    rw [show s.Offset + ((s.Counts.length - 1 : Nat) : Int) = s.Offset + s.Counts.length - 1 by omega] at this
    rw [this]; exact h.e hp
theorem Tr.ext {s t : api_Side} (hs : Tr s) (ht : Tr t) (h : ∀ i, atS s i = atS t i) : s = t := by
  by_cases a : s.Counts.length = 0
  · by_cases b : t.Counts.length = 0
    · have c := hs.z a; have d := ht.z b
      cases s; cases t
      simp only at a b c d
      rw [c, d, List.eq_nil_of_length_eq_zero a, List.eq_nil_of_length_eq_zero b]
    · exact absurd ((h _).symm.trans (atS_empty a _)) (ht.f (by omega))
  · by_cases b : t.Counts.length = 0
    · exact absurd ((h _).trans (atS_empty b _)) (hs.f (by omega))
    · have q : ∀ {u v : api_Side}, Tr u → Tr v → 0 < u.Counts.length → (∀ i, atS u i = atS v i) → v.Offset ≤ u.Offset ∧ u.Offset + u.Counts.length ≤ v.Offset + v.Counts.length := by
        intro u v hu hv hp h
        have h1 := hu.f hp
        have h2 := hu.e hp
        rw [h] at h1 h2
        constructor
        · exact Int.not_lt.1 fun hx => h1 (atS_out (.inl hx))
        · have : u.Offset + u.Counts.length - 1 < v.Offset + v.Counts.length := Int.not_le.1 fun hx => h2 (atS_out (.inr hx))
          omega
      have q1 := q hs ht (by omega) h
      have q2 := q ht hs (by omega) fun i => (h i).symm
      have ho : s.Offset = t.Offset := by omega
      have hc : s.Counts = t.Counts := by
        apply List.ext_getElem (by omega)
        intro i h1 h2
        rw [← atS_in h1, ← atS_in h2, ho, h]
      cases s; cases t
      simp only at ho hc
      rw [ho, hc]

/-! ### two sides together -/
def loS (x y : api_Side) : Int := if x.Counts.length = 0 then y.Offset else if y.Counts.length = 0 then x.Offset else min x.Offset y.Offset
def hiS (x y : api_Side) : Int := if x.Counts.length = 0 then y.Offset + y.Counts.length else if y.Counts.length = 0 then x.Offset + x.Counts.length else max (x.Offset + x.Counts.length) (y.Offset + y.Counts.length)
def onL (f : Int → UInt64) (lo : Int) (n : Nat) : List UInt64 := (List.range n).map fun (i : Nat) => f (lo + i)
theorem onL_len {f : Int → UInt64} {lo : Int} {n : Nat} : (onL f lo n).length = n := by simp [onL]
theorem onL_get {f : Int → UInt64} {lo : Int} {n i : Nat} (h : i < (onL f lo n).length) : (onL f lo n)[i] = f (lo + i) := by simp [onL]
theorem onL_at {f : Int → UInt64} {lo : Int} {n : Nat} (h0 : ∀ i, i < lo ∨ lo + n ≤ i → f i = 0) (i : Int) : atS ⟨lo, onL f lo n⟩ i = f i := by
  by_cases h : lo ≤ i ∧ i < lo + n
  · obtain ⟨k, rfl⟩ : ∃ k : Nat, i = lo + k := ⟨(i - lo).toNat, by omega⟩
    have hk : k < (onL f lo n).length := by rw [onL_len]; omega
    have := atS_in (s := ⟨lo, onL f lo n⟩) (k := k) hk
    rw [this, onL_get]
  · rw [h0 i (by omega)]
    exact atS_out (by dsimp only; rw [onL_len]; omega)
theorem onL_succ {f : Int → UInt64} {lo : Int} {n : Nat} : onL f lo (n + 1) = onL f lo n ++ [f (lo + n)] := by simp [onL, List.range_succ]
def addS (x y : api_Side) (i : Int) : UInt64 := atS x i + atS y i
def widthS (x y : api_Side) : Nat := (hiS x y - loS x y).toNat
def mergeS (x y : api_Side) : api_Side := if widthS x y = 0 then ⟨0, []⟩ else ⟨loS x y, onL (addS x y) (loS x y) (widthS x y)⟩
structure Cov (x y : api_Side) : Prop where
  le : loS x y ≤ hiS x y
  b : -1073741824 ≤ loS x y ∧ hiS x y ≤ 1073741825
  cx : 0 < x.Counts.length → loS x y ≤ x.Offset ∧ x.Offset + x.Counts.length ≤ hiS x y
  cy : 0 < y.Counts.length → loS x y ≤ y.Offset ∧ y.Offset + y.Counts.length ≤ hiS x y
  lo : loS x y = hiS x y ∨ (0 < x.Counts.length ∧ loS x y = x.Offset) ∨ (0 < y.Counts.length ∧ loS x y = y.Offset)
  hi : loS x y = hiS x y ∨ (0 < x.Counts.length ∧ hiS x y = x.Offset + x.Counts.length) ∨ (0 < y.Counts.length ∧ hiS x y = y.Offset + y.Counts.length)
  z : loS x y = hiS x y ↔ x.Counts.length = 0 ∧ y.Counts.length = 0
theorem cov {x y : api_Side} (hx : RightS x) (hy : RightS y) : Cov x y := by
  have a1 := hx.z; have a2 := hx.lo; have a3 := hx.hi
  have b1 := hy.z; have b2 := hy.lo; have b3 := hy.hi
  constructor <;> unfold loS <;> (try unfold hiS) <;> split <;> (try split) <;> omega
theorem cover_eq {x y : api_Side} (hx : RightS x) (hy : RightS y) : fold_cover x y = some (loS x y, (widthS x y : Int)) := by
  have c := cov hx hy
  have l1 := hx.len; have l2 := hy.len
  unfold widthS
  rw [Int.toNat_of_nonneg (by have := c.le; omega)]
  have hxo := hx.off; have hyo := hy.off
  unfold fold_cover
  by_cases h1 : x.Counts.length = 0
  · rw [bifTd (by omega), lett_eq]
    unfold loS hiS
    rw [if_pos h1, if_pos h1]
    congr 2; omega
  · rw [bifFd (by omega)]
    by_cases h2 : y.Counts.length = 0
    · rw [bifTd (by omega), lett_eq]
      unfold loS hiS
      rw [if_neg h1, if_pos h2, if_neg h1, if_pos h2]
      congr 2; omega
    · have e1 : fold_ends x = some (x.Offset, x.Offset + x.Counts.length) := by
        unfold fold_ends
        rw [lett_eq, w64_id (by omega) (by omega)]
      have e2 : fold_ends y = some (y.Offset, y.Offset + y.Counts.length) := by
        unfold fold_ends
        rw [lett_eq, w64_id (by omega) (by omega)]
      rw [bifFd (by omega), e1, e2, bind_some]
      dsimp only
      rw [bind_some]
      dsimp only
      rw [lett_eq, lett_eq, lett_eq]
      unfold loS hiS
      rw [if_neg h1, if_neg h2, if_neg h1, if_neg h2, w64_id (by omega) (by omega)]
theorem add_out {x y : api_Side} (c : Cov x y) (i : Int) (h : i < loS x y ∨ hiS x y ≤ i) : addS x y i = 0 := by
  have hx : atS x i = 0 := by
    by_cases hp : 0 < x.Counts.length
    · have := c.cx hp; exact atS_out (by omega)
    · exact atS_empty (by omega) i
  have hy : atS y i = 0 := by
    by_cases hp : 0 < y.Counts.length
    · have := c.cy hp; exact atS_out (by omega)
    · exact atS_empty (by omega) i
  unfold addS; rw [hx, hy]; rfl
theorem merge_at {x y : api_Side} (c : Cov x y) (i : Int) : atS (mergeS x y) i = addS x y i := by
  have := c.le
  unfold mergeS
  split
  · rename_i h
    unfold widthS at h
    rw [add_out c i (by omega)]
    exact atS_empty rfl i
  · exact onL_at (fun j hj => add_out c j (by unfold widthS at hj; omega)) i
theorem add_nat {x y : api_Side} (hs : su x.Counts + su y.Counts < 18446744073709551616) (i : Int) : (addS x y i).toNat = (atS x i).toNat + (atS y i).toNat := by
  have a := atS_le x i; have b := atS_le y i
  unfold addS
  rw [UInt64.toNat_add, Nat.mod_eq_of_lt (by omega)]
theorem u_ne {a : UInt64} (h : a ≠ 0) : 1 ≤ a.toNat := by
  have : a.toNat ≠ 0 := fun e => h (UInt64.toNat_inj.1 (by rw [e]; rfl))
  omega
theorem ne_u {a : UInt64} (h : 1 ≤ a.toNat) : a ≠ 0 := by
  rintro rfl
  exact absurd h (by decide)
theorem merge_right {x y : api_Side} (hx : RightS x) (hy : RightS y) (hs : su x.Counts + su y.Counts < 18446744073709551616) (hw : widthS x y ≤ 160) : RightS (mergeS x y) := by
  have c := cov hx hy
  have cle := c.le
  have hat := merge_at c
  have hlo : 0 < widthS x y → addS x y (loS x y) ≠ 0 := by
    intro hp
    unfold widthS at hp
    apply ne_u
    rw [add_nat hs]
    rcases c.lo with e | ⟨e1, e2⟩ | ⟨e1, e2⟩
    · omega
    · have := u_ne (hx.tr.f e1); rw [e2]; omega
    · have := u_ne (hy.tr.f e1); rw [e2]; omega
  have hhi : 0 < widthS x y → addS x y (hiS x y - 1) ≠ 0 := by
    intro hp
    unfold widthS at hp
    apply ne_u
    rw [add_nat hs]
    rcases c.hi with e | ⟨e1, e2⟩ | ⟨e1, e2⟩
    · omega
    · have := u_ne (hx.tr.e e1); rw [e2]; omega
    · have := u_ne (hy.tr.e e1); rw [e2]; omega
  have cb := c.b
  unfold mergeS
  by_cases hz : widthS x y = 0
  · rw [if_pos hz]
    exact ⟨by simp, fun _ => rfl, fun h => by simp at h, fun h => by simp at h, fun h => by simp at h, fun h => by simp at h⟩
  · rw [if_neg hz]
    have hw' : (widthS x y : Int) = hiS x y - loS x y := by unfold widthS; omega
    refine ⟨by dsimp only; rw [onL_len]; exact hw, fun h => ?_, fun h => ?_, fun h => ?_, fun _ => ?_, fun _ => ?_⟩
    · dsimp only at h; rw [onL_len] at h; exact absurd h hz
    · dsimp only
      rw [onL_get, show loS x y + ((0 : Nat) : Int) = loS x y by omega]
      exact hlo (by omega)
    · dsimp only
      rw [onL_get]
      simp only [onL_len]
      rw [show loS x y + ((widthS x y - 1 : Nat) : Int) = hiS x y - 1 by omega]
      exact hhi (by omega)
    · exact cb.1
    · dsimp only; rw [onL_len]; omega
theorem merge_su {x y : api_Side} (hx : RightS x) (hy : RightS y) (hs : su x.Counts + su y.Counts < 18446744073709551616) : su (mergeS x y).Counts = su x.Counts + su y.Counts := by
  have c := cov hx hy
  have cle := c.le
  unfold mergeS
  by_cases hz : widthS x y = 0
  · rw [if_pos hz]
    have : loS x y = hiS x y := by unfold widthS at hz; omega
    have := c.z.1 this
    rw [List.eq_nil_of_length_eq_zero this.1, List.eq_nil_of_length_eq_zero this.2]; rfl
  · rw [if_neg hz]
    have hw' : (widthS x y : Int) = hiS x y - loS x y := by unfold widthS; omega
    have S0 : ∀ s : api_Side, (0 < s.Counts.length → loS x y ≤ s.Offset ∧ s.Offset + s.Counts.length ≤ hiS x y) →
        su (s.Counts.take (loS x y - s.Offset).toNat) = 0 ∧ su (s.Counts.take (hiS x y - s.Offset).toNat) = su s.Counts := by
      intro s h
      by_cases hp : 0 < s.Counts.length
      · have := h hp
        rw [show (loS x y - s.Offset).toNat = 0 by omega, su_all _ (show s.Counts.length ≤ (hiS x y - s.Offset).toNat by omega)]
        exact ⟨rfl, rfl⟩
      · rw [List.eq_nil_of_length_eq_zero (by omega : s.Counts.length = 0)]; simp [su_nil]
    have key : ∀ j : Nat, su (onL (addS x y) (loS x y) j) = su (x.Counts.take (loS x y + j - x.Offset).toNat) + su (y.Counts.take (loS x y + j - y.Offset).toNat) := by
      intro j
      induction j with
      | zero =>
        have h1 := (S0 x c.cx).1
        have h2 := (S0 y c.cy).1
        rw [show loS x y + ((0 : Nat) : Int) = loS x y by omega, h1, h2]; rfl
      | succ j ih =>
        rw [onL_succ, su_snoc, ih, add_nat hs]
        have h1 := atS_su x (loS x y + j)
        have h2 := atS_su y (loS x y + j)
        rw [show loS x y + ((j + 1 : Nat) : Int) = loS x y + j + 1 by omega, h1, h2]; omega
    have h := key (widthS x y)
    rw [show loS x y + (widthS x y : Int) = hiS x y by omega, (S0 x c.cx).2, (S0 y c.cy).2] at h
    exact h
theorem merge_comm (x y : api_Side) (hx : RightS x) (hy : RightS y) : mergeS x y = mergeS y x := by
  have e1 : loS x y = loS y x := by
    unfold loS
    have := hx.z; have := hy.z
    split <;> split <;> (try split) <;> omega
  have e2 : hiS x y = hiS y x := by
    unfold hiS
    have := hx.z; have := hy.z
    split <;> split <;> (try split) <;> omega
  have e3 : addS x y = addS y x := by funext i; unfold addS; grind
  unfold mergeS widthS
  rw [e1, e2, e3]
end Go.Lg
