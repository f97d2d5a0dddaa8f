/- Lemmas about the given model and about plain data, which the rows stand on: no statement of the program by itself. -/
import Derived.Test.YtdpokdaeekanjaaRkLg08c
set_option linter.unusedVariables false
namespace Go.Lg
attribute [local irreducible] w64 toU64 toU8 shlU shrU shlB shrB
/-! ### right sides -/
structure RightS (s : api_Side) : Prop where
  len : s.Counts.length ≤ 160
  z : s.Counts.length = 0 → s.Offset = 0
  f : ∀ (h : 0 < s.Counts.length), s.Counts[0] ≠ 0
  e : ∀ (h : 0 < s.Counts.length), s.Counts[s.Counts.length - 1] ≠ 0
  lo : 0 < s.Counts.length → -1073741824 ≤ s.Offset
  hi : 0 < s.Counts.length → s.Offset + s.Counts.length - 1 ≤ 1073741824
theorem RightS.off {s : api_Side} (h : RightS s) : -1100000000000 ≤ s.Offset ∧ s.Offset ≤ 1100000000000 := by
  by_cases h0 : s.Counts.length = 0
  · have := h.z h0; omega
  · have := h.lo (by omega); have := h.hi (by omega); omega
structure Good (h : api_Hist) : Prop where
  s1 : -10 ≤ h.Scale
  s2 : h.Scale ≤ 20
  p : RightS h.Pos
  n : RightS h.Neg
  t : tot h < 18446744073709551616
theorem Good.ok {h : api_Hist} (g : Good h) : OkH h := by
  have := g.p.off; have := g.n.off; have := g.p.len; have := g.n.len; have := g.s1; have := g.s2
  exact ⟨by unfold I64; omega, by unfold I64; omega, by unfold I64; omega, by omega, by omega⟩
theorem Good.sp {h : api_Hist} (g : Good h) : su h.Pos.Counts < 18446744073709551616 := by have := g.t; unfold tot at this; omega
theorem Good.sn {h : api_Hist} (g : Good h) : su h.Neg.Counts < 18446744073709551616 := by have := g.t; unfold tot at this; omega
/-- a side's image, by 2^k -/
def DnS (k : Nat) (s t : api_Side) : Prop := (s.Counts.length = 0 ∧ t = ⟨0, []⟩) ∨ (0 < s.Counts.length ∧ Dn (2 ^ k) s t)
theorem DnS.inj {k : Nat} {s t u : api_Side} (h : DnS k s t) (h' : DnS k s u) : t = u := by
  rcases h with ⟨a, b⟩ | ⟨a, b⟩ <;> rcases h' with ⟨c, d⟩ | ⟨c, d⟩
  · rw [b, d]
  · omega
  · omega
  · exact b.inj d
theorem Dn.pos {P : Int} {s t : api_Side} (hP : 0 < P) (h : Dn P s t) (hn : 0 < s.Counts.length) : 0 < t.Counts.length := by
  have := h.l
  have := ediv_mono hP (show s.Offset ≤ s.Offset + s.Counts.length - 1 by omega)
  omega
theorem Dn.le {P : Int} {s t : api_Side} (hP : 0 < P) (h : Dn P s t) (hn : 0 < s.Counts.length) : t.Counts.length ≤ s.Counts.length := by
  have h1 := h.l
  have h3 : (s.Offset + s.Counts.length - 1) / P < s.Offset / P + s.Counts.length := by
    rw [Int.ediv_lt_iff_lt_mul hP]
    have e1 := Int.mul_ediv_add_emod s.Offset P
    have h4 : (s.Offset / P + s.Counts.length) * P = P * (s.Offset / P) + s.Counts.length * P := by rw [Int.add_mul, Int.mul_comm (s.Offset / P)]
    have h6 := Int.emod_lt_of_pos s.Offset hP
    have h8 : ((s.Counts.length : Int) - 1) * 1 ≤ (s.Counts.length - 1) * P := Int.mul_le_mul_of_nonneg_left (by omega) (by omega)
    have h9 : ((s.Counts.length : Int) - 1) * P = s.Counts.length * P - P := by rw [Int.sub_mul, Int.one_mul]
    rw [h9, Int.mul_one] at h8
    rw [h4]; omega
  omega
theorem DnS.right {k : Nat} {s t : api_Side} (hs : RightS s) (h : DnS k s t) (hb : su s.Counts < 18446744073709551616) : RightS t := by
  rcases h with ⟨a, rfl⟩ | ⟨hn, h⟩
  · exact ⟨by simp, fun _ => rfl, fun h => by simp at h, fun h => by simp at h, fun h => by simp at h, fun h => by simp at h⟩
  have hP := p2 k
  have hle := h.le hP hn
  have hpos := h.pos hP hn
  have ho := h.o
  have hl := h.l
  have hlo := hs.lo hn
  have hhi := hs.hi hn
  have d1 := div_bd hP (b := 1073741824) (by omega) (a := s.Offset) (by omega)
  have d2 := div_bd hP (b := 1073741824) (by omega) (a := s.Offset + s.Counts.length - 1) (by omega)
  refine ⟨by have := hs.len; omega, fun h => by omega, fun _ => ?_, fun _ => ?_, fun _ => by omega, fun _ => by omega⟩
  · intro e
    have h1 := h.su 1
    have h2 := su_take_succ hpos
    rw [e] at h2
    have h3 := su_take_succ hn
    have h4 := hs.f hn
    have h5 : (s.Counts[0]).toNat ≠ 0 := fun e => h4 (UInt64.toNat_inj.1 (by rw [e]; rfl))
    have h6 : 1 ≤ (2 ^ k * (t.Offset + ((1 : Nat) : Int)) - s.Offset).toNat := by
      have e1 := Int.mul_ediv_add_emod s.Offset (2 ^ k)
      have e2 := Int.emod_lt_of_pos s.Offset hP
      rw [ho, Int.mul_add]; omega
    have h7 := su_take_mono s.Counts h6
    have hz : (0 : UInt64).toNat = 0 := rfl
    simp only [Nat.zero_add, List.take_zero, su_nil] at h1 h2 h3
    omega
  · intro e
    obtain ⟨m, hm⟩ : ∃ m, t.Counts.length = m + 1 := ⟨t.Counts.length - 1, by omega⟩
    have h2 := su_take_succ (l := t.Counts) (i := t.Counts.length - 1) (by omega)
    rw [e, show t.Counts.length - 1 + 1 = t.Counts.length by omega, List.take_length] at h2
    have h1 := h.su (t.Counts.length - 1)
    have h3 := h.tot hP hn
    have h4 := su_take_succ (l := s.Counts) (i := s.Counts.length - 1) (by omega)
    rw [show s.Counts.length - 1 + 1 = s.Counts.length by omega, List.take_length] at h4
    have h5 := hs.e hn
    have h6 : (s.Counts[s.Counts.length - 1]).toNat ≠ 0 := fun e => h5 (UInt64.toNat_inj.1 (by rw [e]; rfl))
    have h7 : (2 ^ k * (t.Offset + ((t.Counts.length - 1 : Nat) : Int)) - s.Offset).toNat ≤ s.Counts.length - 1 := by
      have e1 : t.Offset + ((t.Counts.length - 1 : Nat) : Int) = (s.Offset + s.Counts.length - 1) / 2 ^ k := by omega
      have e2 : 2 ^ k * ((s.Offset + s.Counts.length - 1) / 2 ^ k) ≤ s.Offset + s.Counts.length - 1 := Int.mul_ediv_self_le (by omega)
      rw [e1]; omega
    have h8 := su_take_mono s.Counts h7
    have : (0 : UInt64).toNat = 0 := rfl
    omega
theorem DnS.zero {s : api_Side} (h : RightS s) : DnS 0 s s := by
  by_cases h0 : s.Counts.length = 0
  · refine .inl ⟨h0, ?_⟩
    have := h.z h0
    obtain ⟨o, c⟩ := s
    simp only at this h0
    rw [this, List.eq_nil_of_length_eq_zero h0]
  · exact .inr ⟨by omega, by simpa using Dn.id s⟩
theorem DnS.tot {k : Nat} {s t : api_Side} (h : DnS k s t) : su t.Counts = su s.Counts := by
  rcases h with ⟨a, rfl⟩ | ⟨hn, h⟩
  · rw [List.eq_nil_of_length_eq_zero a]
  · exact h.tot (p2 k) hn
structure DnH (k : Nat) (h g : api_Hist) : Prop where
  s : g.Scale = h.Scale - k
  z : g.Zero = h.Zero
  p : DnS k h.Pos g.Pos
  n : DnS k h.Neg g.Neg
theorem DnH.inj {k : Nat} {h g g' : api_Hist} (a : DnH k h g) (b : DnH k h g') : g = g' := by
  obtain ⟨a1, a2, a3, a4⟩ := a
  obtain ⟨b1, b2, b3, b4⟩ := b
  have c1 := a3.inj b3
  have c2 := a4.inj b4
  cases g; cases g'
  simp only at *
  subst c1; subst c2
  rw [a1, b1, a2, b2]
theorem DnH.tot {k : Nat} {h g : api_Hist} (a : DnH k h g) : Lg.tot g = Lg.tot h := by unfold Lg.tot; rw [a.z, a.p.tot, a.n.tot]
theorem DnH.good {k : Nat} {h g : api_Hist} (a : DnH k h g) (hg : Good h) (hk : (k : Int) ≤ h.Scale + 10) : Good g :=
  ⟨by have := a.s; omega, by have := a.s; have := hg.s2; omega, a.p.right hg.p hg.sp, a.n.right hg.n hg.sn, by rw [a.tot]; exact hg.t⟩
theorem DnH.zero {h : api_Hist} (g : Good h) : DnH 0 h h := ⟨by simp, rfl, DnS.zero g.p, DnS.zero g.n⟩
def H0 : api_Hist := ⟨0, 0, ⟨0, []⟩, ⟨0, []⟩⟩
/-! ### which are the same -/
theorem sameSide_self {s : api_Side} (hl : s.Counts.length ≤ 1000000) : ref08_SameSide s s = some true := by
  have key : ∀ (m i : Nat), i + m = s.Counts.length → loop (ref08_SameSide_lp1 s s) (i : Int) = some (.go ()) := by
    intro m
    induction m with
    | zero =>
      intro i hi
      refine loop_brk ?_
      unfold ref08_SameSide_lp1
      rw [bifFd (by omega)]
    | succ m ih =>
      intro i hi
      rw [loop_next (s' := ((i + 1 : Nat) : Int)), ih (i + 1) (by omega)]
      unfold ref08_SameSide_lp1
      rw [bifTd (by omega), idx_nat (by omega), bind_some, bind_some, bifF (by simp), lett_eq, w64_succ (by omega)]
  have h0 : loop (ref08_SameSide_lp1 s s) 0 = _ := key s.Counts.length 0 (by omega)
  unfold ref08_SameSide
  rw [bifF (by simp), h0]; rfl
theorem same_self {h : api_Hist} (hp : h.Pos.Counts.length ≤ 1000000) (hn : h.Neg.Counts.length ≤ 1000000) : ref08_Same h h = some true := by
  unfold ref08_Same
  rw [bifT (by simp), sameSide_self hp, bind_some, bind_some, cond_true, sameSide_self hn]; rfl
/-! ### as coarse as it must be -/
end Go.Lg
