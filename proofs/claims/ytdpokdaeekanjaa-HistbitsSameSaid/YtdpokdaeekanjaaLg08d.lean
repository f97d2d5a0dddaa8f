/- Lemmas about the given model and about plain data, which the rows stand on: no statement of the program by itself. -/
import Derived.Test.YtdpokdaeekanjaaLg08c
set_option linter.unusedVariables false
namespace Go.Lg
attribute [local irreducible] w64 toU64 toU8 shlU shrU shlB shrB

/-! ### right sides -/
structure RightS (s : api_Side) : Prop where
  len : s.Counts.length ≤ 160
  z : s.Counts.length = 0 → s.Offset = 0
  f : ∀ (h : 0 < s.Counts.length), s.Counts[0] ≠ 0
  e : ∀ (h : 0 < s.Counts.length), s.Counts[s.Counts.length - 1] ≠ 0
  lo : 0 < s.Counts.length → -1073741824 ≤ s.Offset
  hi : 0 < s.Counts.length → s.Offset + s.Counts.length - 1 ≤ 1073741824
theorem right_iff (s : api_Side) : sideE s = 0 ↔ RightS s := by
  unfold sideE
  by_cases h1 : 160 < s.Counts.length
  · rw [if_pos h1]; exact ⟨fun h => absurd h (by decide), fun h => by have := h.len; omega⟩
  rw [if_neg h1]
  by_cases h2 : s.Counts.length = 0
  · rw [if_pos h2]
    by_cases h3 : s.Offset = 0
    · rw [if_pos h3]; exact ⟨fun _ => ⟨by omega, fun _ => h3, fun h => by omega, fun h => by omega, fun h => by omega, fun h => by omega⟩, fun _ => rfl⟩
    · rw [if_neg h3]; exact ⟨fun h => absurd h (by decide), fun h => absurd (h.z h2) h3⟩
  rw [if_neg h2]
  by_cases h3 : s.Counts.getD 0 0 = 0 ∨ s.Counts.getD (s.Counts.length - 1) 0 = 0
  · rw [if_pos h3]
    rw [getD_lt (by omega), getD_lt (by omega)] at h3
    exact ⟨fun h => absurd h (by decide), fun h => h3.elim (fun e => absurd e (h.f (by omega))) (fun e => absurd e (h.e (by omega)))⟩
  rw [if_neg h3]
  rw [getD_lt (by omega), getD_lt (by omega)] at h3
  by_cases h5 : s.Offset < -1073741824 ∨ 1073741824 - ((s.Counts.length : Int) - 1) < s.Offset
  · rw [if_pos h5]
    exact ⟨fun h => absurd h (by decide), fun h => by have := h.lo (by omega); have := h.hi (by omega); omega⟩
  · rw [if_neg h5]
    exact ⟨fun _ => ⟨by omega, fun h => absurd h h2, fun _ => fun e => h3 (.inl e), fun _ => fun e => h3 (.inr e), fun _ => by omega, fun _ => by omega⟩, fun _ => rfl⟩
theorem RightS.off {s : api_Side} (h : RightS s) : -1100000000000 ≤ s.Offset ∧ s.Offset ≤ 1100000000000 := by
  by_cases h0 : s.Counts.length = 0
  · have := h.z h0; omega
  · have := h.lo (by omega); have := h.hi (by omega); omega
structure Good (h : api_Hist) : Prop where
  s1 : -10 ≤ h.Scale
  s2 : h.Scale ≤ 20
  p : RightS h.Pos
  n : RightS h.Neg
  t : tot h < 18446744073709551616
theorem good_iff (h : api_Hist) : histE h = 0 ↔ Good h := by
  unfold histE
  by_cases h1 : h.Scale < -10 ∨ 20 < h.Scale
  · rw [if_pos h1]; exact ⟨fun h => absurd h (by decide), fun g => by have := g.s1; have := g.s2; omega⟩
  rw [if_neg h1]
  by_cases h2 : sideE h.Pos ≠ 0
  · rw [if_pos h2]; exact ⟨fun h => absurd h h2, fun g => absurd ((right_iff _).2 g.p) h2⟩
  rw [if_neg h2]
  by_cases h3 : sideE h.Neg ≠ 0
  · rw [if_pos h3]; exact ⟨fun h => absurd h h3, fun g => absurd ((right_iff _).2 g.n) h3⟩
  rw [if_neg h3]
  by_cases h4 : tot h < 18446744073709551616
  · rw [if_pos h4]
    exact ⟨fun _ => ⟨by omega, by omega, (right_iff _).1 (Decidable.not_not.1 h2), (right_iff _).1 (Decidable.not_not.1 h3), h4⟩, fun _ => rfl⟩
  · rw [if_neg h4]; exact ⟨fun h => absurd h (by decide), fun g => absurd g.t h4⟩
theorem Good.ok {h : api_Hist} (g : Good h) : OkH h := by
  have := g.p.off; have := g.n.off; have := g.p.len; have := g.n.len; have := g.s1; have := g.s2
  exact ⟨by unfold I64; omega, by unfold I64; omega, by unfold I64; omega, by omega, by omega⟩
theorem Good.sp {h : api_Hist} (g : Good h) : su h.Pos.Counts < 18446744073709551616 := by have := g.t; unfold tot at this; omega
theorem Good.sn {h : api_Hist} (g : Good h) : su h.Neg.Counts < 18446744073709551616 := by have := g.t; unfold tot at this; omega

/-- a side's image, by 2^k -/
def DnS (k : Nat) (s t : api_Side) : Prop := (s.Counts.length = 0 ∧ t = ⟨0, []⟩) ∨ (0 < s.Counts.length ∧ Dn (2 ^ k) s t)
theorem DnS.inj {k : Nat} {s t u : api_Side} (h : DnS k s t) (h' : DnS k s u) : t = u := by
  rcases h with ⟨a, b⟩ | ⟨a, b⟩ <;> rcases h' with ⟨c, d⟩ | ⟨c, d⟩
  · rw [b, d]
  · omega
  · omega
  · exact b.inj d
theorem Dn.pos {P : Int} {s t : api_Side} (hP : 0 < P) (h : Dn P s t) (hn : 0 < s.Counts.length) : 0 < t.Counts.length := by
  have := h.l
  have := ediv_mono hP (show s.Offset ≤ s.Offset + s.Counts.length - 1 by omega)
  omega
theorem Dn.le {P : Int} {s t : api_Side} (hP : 0 < P) (h : Dn P s t) (hn : 0 < s.Counts.length) : t.Counts.length ≤ s.Counts.length := by
  have h1 := h.l
  have h3 : (s.Offset + s.Counts.length - 1) / P < s.Offset / P + s.Counts.length := by
    rw [Int.ediv_lt_iff_lt_mul hP]
    have e1 := Int.mul_ediv_add_emod s.Offset P
    have h4 : (s.Offset / P + s.Counts.length) * P = P * (s.Offset / P) + s.Counts.length * P := by rw [Int.add_mul, Int.mul_comm (s.Offset / P)]
    have h6 := Int.emod_lt_of_pos s.Offset hP
    have h8 : ((s.Counts.length : Int) - 1) * 1 ≤ (s.Counts.length - 1) * P := Int.mul_le_mul_of_nonneg_left (by omega) (by omega)
    have h9 : ((s.Counts.length : Int) - 1) * P = s.Counts.length * P - P := by rw [Int.sub_mul, Int.one_mul]
    rw [h9, Int.mul_one] at h8
    rw [h4]; omega
  omega
theorem DnS.right {k : Nat} {s t : api_Side} (hs : RightS s) (h : DnS k s t) (hb : su s.Counts < 18446744073709551616) : RightS t := by
  rcases h with ⟨a, rfl⟩ | ⟨hn, h⟩
  · exact ⟨by simp, fun _ => rfl, fun h => by simp at h, fun h => by simp at h, fun h => by simp at h, fun h => by simp at h⟩
  have hP := p2 k
  have hle := h.le hP hn
  have hpos := h.pos hP hn
  have ho := h.o
  have hl := h.l
  have hlo := hs.lo hn
  have hhi := hs.hi hn
  have d1 := div_bd hP (b := 1073741824) (by omega) (a := s.Offset) (by omega)
  have d2 := div_bd hP (b := 1073741824) (by omega) (a := s.Offset + s.Counts.length - 1) (by omega)
  refine ⟨by have := hs.len; omega, fun h => by omega, fun _ => ?_, fun _ => ?_, fun _ => by omega, fun _ => by omega⟩
  · intro e
    have h1 := h.su 1
    have h2 := su_take_succ hpos
    rw [e] at h2
    have h3 := su_take_succ hn
    have h4 := hs.f hn
    have h5 : (s.Counts[0]).toNat ≠ 0 := fun e => h4 (UInt64.toNat_inj.1 (by rw [e]; rfl))
    have h6 : 1 ≤ (2 ^ k * (t.Offset + ((1 : Nat) : Int)) - s.Offset).toNat := by
      have e1 := Int.mul_ediv_add_emod s.Offset (2 ^ k)
      have e2 := Int.emod_lt_of_pos s.Offset hP
      rw [ho, Int.mul_add]; omega
    have h7 := su_take_mono s.Counts h6
    have hz : (0 : UInt64).toNat = 0 := rfl
    simp only [Nat.zero_add, List.take_zero, su_nil] at h1 h2 h3
    omega
  · intro e
    obtain ⟨m, hm⟩ : ∃ m, t.Counts.length = m + 1 := ⟨t.Counts.length - 1, by omega⟩
    have h2 := su_take_succ (l := t.Counts) (i := t.Counts.length - 1) (by omega)
    rw [e, show t.Counts.length - 1 + 1 = t.Counts.length by omega, List.take_length] at h2
    have h1 := h.su (t.Counts.length - 1)
    have h3 := h.tot hP hn
    have h4 := su_take_succ (l := s.Counts) (i := s.Counts.length - 1) (by omega)
    rw [show s.Counts.length - 1 + 1 = s.Counts.length by omega, List.take_length] at h4
    have h5 := hs.e hn
    have h6 : (s.Counts[s.Counts.length - 1]).toNat ≠ 0 := fun e => h5 (UInt64.toNat_inj.1 (by rw [e]; rfl))
    have h7 : (2 ^ k * (t.Offset + ((t.Counts.length - 1 : Nat) : Int)) - s.Offset).toNat ≤ s.Counts.length - 1 := by
      have e1 : t.Offset + ((t.Counts.length - 1 : Nat) : Int) = (s.Offset + s.Counts.length - 1) / 2 ^ k := by omega
      have e2 : 2 ^ k * ((s.Offset + s.Counts.length - 1) / 2 ^ k) ≤ s.Offset + s.Counts.length - 1 := Int.mul_ediv_self_le (by omega)
      rw [e1]; omega
    have h8 := su_take_mono s.Counts h7
    have : (0 : UInt64).toNat = 0 := rfl
    omega
theorem DnS.comp {a b : Nat} {s t u : api_Side} (h : DnS a s t) (k : DnS b t u) : DnS (a + b) s u := by
  rcases h with ⟨x, rfl⟩ | ⟨x, y⟩
  · rcases k with ⟨_, z⟩ | ⟨z, _⟩
    · exact .inl ⟨x, z⟩
    · simp at z
  · have := y.pos (p2 a) x
    rcases k with ⟨z, _⟩ | ⟨_, z⟩
    · omega
    · exact .inr ⟨x, by rw [Int.pow_add]; exact y.comp (p2 a) (p2 b) z⟩
theorem DnS.zero {s : api_Side} (h : RightS s) : DnS 0 s s := by
  by_cases h0 : s.Counts.length = 0
  · refine .inl ⟨h0, ?_⟩
    have := h.z h0
    obtain ⟨o, c⟩ := s
    simp only at this h0
    rw [this, List.eq_nil_of_length_eq_zero h0]
  · exact .inr ⟨by omega, by simpa using Dn.id s⟩
theorem DnS.tot {k : Nat} {s t : api_Side} (h : DnS k s t) : su t.Counts = su s.Counts := by
  rcases h with ⟨a, rfl⟩ | ⟨hn, h⟩
  · rw [List.eq_nil_of_length_eq_zero a]
  · exact h.tot (p2 k) hn
theorem down_side {s : api_Side} (h : RightS s) (hb : su s.Counts < 18446744073709551616) {k : Nat} (hk : k ≤ 64) {u : UInt64} (hu : u.toNat = k) : ∃ t, hist_down s u = some t ∧ DnS k s t := by
  by_cases h0 : s.Counts.length = 0
  · refine ⟨⟨0, []⟩, ?_, .inl ⟨h0, rfl⟩⟩
    unfold hist_down
    rw [bifTd (by omega)]
  · obtain ⟨t, h1, h2⟩ := down_eq hk h.off (by omega) (by have := h.len; omega) hb hu
    exact ⟨t, h1, .inr ⟨by omega, h2⟩⟩
theorem once_side {s : api_Side} (h : RightS s) (hb : su s.Counts < 18446744073709551616) : ∃ t, ref08_once s = some t ∧ DnS 1 s t := by
  by_cases h0 : s.Counts.length = 0
  · refine ⟨⟨0, []⟩, ?_, .inl ⟨h0, rfl⟩⟩
    unfold ref08_once
    rw [loop_brk (b := (0, []))]
    · rfl
    · unfold ref08_once_lp1
      dsimp only
      rw [bifFd (by omega)]
  · obtain ⟨t, h1, h2⟩ := once_eq h.off (by omega) (by have := h.len; omega) hb
    exact ⟨t, h1, .inr ⟨by omega, by simpa using h2⟩⟩
structure DnH (k : Nat) (h g : api_Hist) : Prop where
  s : g.Scale = h.Scale - k
  z : g.Zero = h.Zero
  p : DnS k h.Pos g.Pos
  n : DnS k h.Neg g.Neg
theorem DnH.inj {k : Nat} {h g g' : api_Hist} (a : DnH k h g) (b : DnH k h g') : g = g' := by
  obtain ⟨a1, a2, a3, a4⟩ := a
  obtain ⟨b1, b2, b3, b4⟩ := b
  have c1 := a3.inj b3
  have c2 := a4.inj b4
  cases g; cases g'
  simp only at *
  subst c1; subst c2
  rw [a1, b1, a2, b2]
theorem DnH.tot {k : Nat} {h g : api_Hist} (a : DnH k h g) : Lg.tot g = Lg.tot h := by unfold Lg.tot; rw [a.z, a.p.tot, a.n.tot]
theorem DnH.good {k : Nat} {h g : api_Hist} (a : DnH k h g) (hg : Good h) (hk : (k : Int) ≤ h.Scale + 10) : Good g :=
  ⟨by have := a.s; omega, by have := a.s; have := hg.s2; omega, a.p.right hg.p hg.sp, a.n.right hg.n hg.sn, by rw [a.tot]; exact hg.t⟩
theorem DnH.comp {a b : Nat} {h g i : api_Hist} (x : DnH a h g) (y : DnH b g i) : DnH (a + b) h i :=
  ⟨by rw [y.s, x.s]; omega, by rw [y.z, x.z], x.p.comp y.p, x.n.comp y.n⟩
theorem DnH.zero {h : api_Hist} (g : Good h) : DnH 0 h h := ⟨by simp, rfl, DnS.zero g.p, DnS.zero g.n⟩
def H0 : api_Hist := ⟨0, 0, ⟨0, []⟩, ⟨0, []⟩⟩
theorem Down_bad {h : api_Hist} (o : OkH h) (hb : histE h ≠ 0) (by_ : Int) : hist_Down h by_ = some (H0, histE h) ∧ ref08_Down h by_ = some (H0, histE h) := by
  constructor
  · unfold hist_Down
    rw [Check_eq o, bind_some, bifT (by simp [hb])]; rfl
  · unfold ref08_Down
    rw [RCheck_eq o, bind_some, bifT (by simp [hb])]; rfl
theorem Down_arg {h : api_Hist} (g : Good h) {by_ : Int} (hb : by_ < 0 ∨ h.Scale + 10 < by_) : hist_Down h by_ = some (H0, 1) ∧ ref08_Down h by_ = some (H0, 1) := by
  have hE := (good_iff h).2 g
  have e : w64 (h.Scale - (-10)) = h.Scale + 10 := by have := g.s1; have := g.s2; rw [w64_id] <;> omega
  constructor
  · unfold hist_Down
    rw [Check_eq g.ok, bind_some, bifF (by simp [hE]), e, bifT (by simpa using hb)]; rfl
  · unfold ref08_Down
    rw [RCheck_eq g.ok, bind_some, bifF (by simp [hE]), e, bifT (by simpa using hb)]; rfl
theorem Down_ok {h : api_Hist} (g : Good h) {k : Nat} (hk : (k : Int) ≤ h.Scale + 10) : ∃ x, hist_Down h (k : Int) = some (x, 0) ∧ DnH k h x := by
  have hE := (good_iff h).2 g
  have s1 := g.s1
  have s2 := g.s2
  have e : w64 (h.Scale - (-10)) = h.Scale + 10 := by rw [w64_id] <;> omega
  have hu : (toU64 (k : Int)).toNat = k := toU64_nat (by omega)
  obtain ⟨p, p1, p2⟩ := down_side g.p g.sp (k := k) (by omega) hu
  obtain ⟨n, n1, n2⟩ := down_side g.n g.sn (k := k) (by omega) hu
  refine ⟨⟨h.Scale - k, h.Zero, p, n⟩, ?_, rfl, rfl, p2, n2⟩
  unfold hist_Down
  rw [Check_eq g.ok, bind_some, bifF (by simp [hE]), e, bifF (by simp; omega), p1, bind_some, n1, bind_some, w64_id (x := h.Scale - (k : Int)) (by omega) (by omega)]
theorem RDown_ok {h : api_Hist} (g : Good h) {k : Nat} (hk : (k : Int) ≤ h.Scale + 10) : ∃ x, ref08_Down h (k : Int) = some (x, 0) ∧ DnH k h x := by
  have hE := (good_iff h).2 g
  have s1 := g.s1
  have s2 := g.s2
  have key : ∀ (m i : Nat) (y : api_Hist), i + m = k → DnH i h y → ∃ x, loop (ref08_Down_lp1 (k : Int)) (y.Scale, y.Pos.Offset, y.Pos.Counts, y.Neg.Offset, y.Neg.Counts, (i : Int)) = some (.go (x.Scale, x.Pos.Offset, x.Pos.Counts, x.Neg.Offset, x.Neg.Counts)) ∧ DnH k h x := by
    intro m
    induction m with
    | zero =>
      intro i y hi hy
      obtain rfl : i = k := by omega
      refine ⟨y, loop_brk ?_, hy⟩
      unfold ref08_Down_lp1
      dsimp only
      rw [bifFd (by omega)]
    | succ m ih =>
      intro i y hi hy
      have gy := hy.good g (by omega)
      obtain ⟨p, p1, p2⟩ := once_side gy.p gy.sp
      obtain ⟨n, n1, n2⟩ := once_side gy.n gy.sn
      have ys1 := gy.s1
      have ys2 := gy.s2
      have hz : DnH (i + 1) h ⟨y.Scale - 1, y.Zero, p, n⟩ := hy.comp ⟨rfl, rfl, p2, n2⟩
      obtain ⟨x, x1, x2⟩ := ih (i + 1) _ (by omega) hz
      refine ⟨x, ?_, x2⟩
      rw [← x1]
      refine loop_next ?_
      have p1' : ref08_once ⟨y.Pos.Offset, y.Pos.Counts⟩ = some p := p1
      have n1' : ref08_once ⟨y.Neg.Offset, y.Neg.Counts⟩ = some n := n1
      unfold ref08_Down_lp1
      dsimp only
      rw [bifTd (by omega), p1', bind_some, n1', bind_some, lett_eq, w64_succ (by omega), w64_id (x := y.Scale - 1) (by omega) (by omega)]
  have e : w64 (h.Scale - (-10)) = h.Scale + 10 := by rw [w64_id] <;> omega
  obtain ⟨x, x1, x2⟩ := key k 0 h (by omega) (DnH.zero g)
  refine ⟨x, ?_, x2⟩
  have x1' : loop (ref08_Down_lp1 (k : Int)) (h.Scale, h.Pos.Offset, h.Pos.Counts, h.Neg.Offset, h.Neg.Counts, 0) = _ := x1
  have t1 := RTrim_eq g.p.off (by have := g.p.len; omega)
  have t2 := RTrim_eq g.n.off (by have := g.n.len; omega)
  rw [trim_right ((right_iff _).2 g.p)] at t1
  rw [trim_right ((right_iff _).2 g.n)] at t2
  unfold ref08_Down
  rw [RCheck_eq g.ok, bind_some, bifF (by simp [hE]), e, bifF (by simp; omega), t1, bind_some, t2, bind_some, bind_some, bind_some]
  dsimp only
  rw [x1', flow_go, x2.z.symm]

/-! ### which are the same -/
theorem sameSide_self {s : api_Side} (hl : s.Counts.length ≤ 1000000) : ref08_SameSide s s = some true := by
  have key : ∀ (m i : Nat), i + m = s.Counts.length → loop (ref08_SameSide_lp1 s s) (i : Int) = some (.go ()) := by
    intro m
    induction m with
    | zero =>
      intro i hi
      refine loop_brk ?_
      unfold ref08_SameSide_lp1
      rw [bifFd (by omega)]
    | succ m ih =>
      intro i hi
      rw [loop_next (s' := ((i + 1 : Nat) : Int)), ih (i + 1) (by omega)]
      unfold ref08_SameSide_lp1
      rw [bifTd (by omega), idx_nat (by omega), bind_some, bind_some, bifF (by simp), lett_eq, w64_succ (by omega)]
  have h0 : loop (ref08_SameSide_lp1 s s) 0 = _ := key s.Counts.length 0 (by omega)
  unfold ref08_SameSide
  rw [bifF (by simp), h0]; rfl
theorem same_self {h : api_Hist} (hp : h.Pos.Counts.length ≤ 1000000) (hn : h.Neg.Counts.length ≤ 1000000) : ref08_Same h h = some true := by
  unfold ref08_Same
  rw [bifT (by simp), sameSide_self hp, bind_some, bind_some, cond_true, sameSide_self hn]; rfl

/-! ### as coarse as it must be -/
theorem DnS.span {k : Nat} {s t : api_Side} (h : DnS k s t) (hs : RightS s) (hk : k ≤ 64) {u : UInt64} (hu : u.toNat = k) : hist_span s u = some (t.Counts.length : Int) := by
  rcases h with ⟨a, rfl⟩ | ⟨hn, h⟩
  · unfold hist_span
    rw [lett_eq, bifTd (by omega)]; rfl
  · rw [span_eq hk hs.off hn (by have := hs.len; omega) hu, h.l]
/-- as fine as it can be: finer by one does not fit -/
def Fine (h : api_Hist) (most : Int) (k : Nat) : Prop := k = 0 ∨ ∃ (j : Nat) (y : api_Hist), j + 1 = k ∧ DnH j h y ∧ ¬ ((y.Pos.Counts.length : Int) ≤ most ∧ (y.Neg.Counts.length : Int) ≤ most)
theorem Fit_eq {h : api_Hist} (g : Good h) (most : Int) : ∃ x e, hist_Fit h most = some (x, e) ∧ ref08_Fit h most = some (x, e) ∧ ((e = 4 ∧ x = H0) ∨ (e = 0 ∧ ∃ k : Nat, (k : Int) ≤ h.Scale + 10 ∧ DnH k h x ∧ (x.Pos.Counts.length : Int) ≤ most ∧ (x.Neg.Counts.length : Int) ≤ most ∧ Fine h most k)) := by
  have hE := (good_iff h).2 g
  have s1 := g.s1
  have s2 := g.s2
  have e : w64 (h.Scale - (-10)) = h.Scale + 10 := by rw [w64_id] <;> omega
  have key : ∀ (m k : Nat), (k : Int) + m = h.Scale + 11 → Fine h most k →
      ∃ p, loop (hist_Fit_lp1 h most) (k : Int) = some p ∧ loop (ref08_Fit_lp1 h most) (k : Int) = some p ∧
       (p = .go () ∨ ∃ (x : api_Hist) (k : Nat), p = .out (x, 0) ∧ (k : Int) ≤ h.Scale + 10 ∧ DnH k h x ∧ (x.Pos.Counts.length : Int) ≤ most ∧ (x.Neg.Counts.length : Int) ≤ most ∧ Fine h most k) := by
    intro m
    induction m with
    | zero =>
      intro k hk hf
      refine ⟨.go (), loop_brk ?_, loop_brk ?_, .inl rfl⟩
      · unfold hist_Fit_lp1
        rw [e, bifFd (by omega)]
      · unfold ref08_Fit_lp1
        rw [e, bifFd (by omega)]
    | succ m ih =>
      intro k hk hf
      have hk' : (k : Int) ≤ h.Scale + 10 := by omega
      have hu : (toU64 (k : Int)).toNat = k := toU64_nat (by omega)
      obtain ⟨x, x1, x2⟩ := Down_ok g hk'
      obtain ⟨x', y1, y2⟩ := RDown_ok g hk'
      obtain rfl := y2.inj x2
      have sp := x2.p.span g.p (by omega) hu
      have sn := x2.n.span g.n (by omega) hu
      have rr : hist_Fit_lp1 h most (k : Int) = (bif decide (max (x'.Pos.Counts.length : Int) (x'.Neg.Counts.length : Int) ≤ most) then some (.out (x', 0)) else some (.next ((k + 1 : Nat) : Int))) := by
        unfold hist_Fit_lp1
        rw [e, bifTd (by omega), sp, bind_some, sn, bind_some, x1, bind_some]
        dsimp only
        rw [outr_some, lett_eq, w64_succ (by omega)]
      have rf : ref08_Fit_lp1 h most (k : Int) = (bif (decide ((x'.Pos.Counts.length : Int) ≤ most)) && (decide ((x'.Neg.Counts.length : Int) ≤ most)) then some (.out (x', 0)) else some (.next ((k + 1 : Nat) : Int))) := by
        unfold ref08_Fit_lp1
        rw [e, bifTd (by omega), y1, bind_some]
        dsimp only
        rw [outr_some, lett_eq, w64_succ (by omega)]
      by_cases hfit : (x'.Pos.Counts.length : Int) ≤ most ∧ (x'.Neg.Counts.length : Int) ≤ most
      · rw [bifTd (by omega)] at rr
        rw [bifT (by simp [hfit.1, hfit.2])] at rf
        exact ⟨.out (x', 0), loop_out rr, loop_out rf, .inr ⟨x', k, rfl, hk', x2, hfit.1, hfit.2, hf⟩⟩
      · rw [bifFd (by omega)] at rr
        rw [bifF (by rw [← Bool.decide_and]; exact decide_eq_false hfit)] at rf
        rw [loop_next rr, loop_next rf]
        exact ih (k + 1) (by omega) (.inr ⟨k, x', rfl, x2, hfit⟩)
  obtain ⟨p, p1, p2, p3⟩ := key (h.Scale + 11).toNat 0 (by omega) (.inl rfl)
  have p1' : loop (hist_Fit_lp1 h most) 0 = some p := p1
  have p2' : loop (ref08_Fit_lp1 h most) 0 = some p := p2
  unfold hist_Fit ref08_Fit
  rw [Check_eq g.ok, RCheck_eq g.ok, bind_some, bind_some, bifF (by simp [hE]), bifF (by simp [hE]), p1', p2']
  rcases p3 with rfl | ⟨x, k, rfl, q⟩
  · exact ⟨H0, 4, rfl, rfl, .inl ⟨rfl, rfl⟩⟩
  · exact ⟨x, 0, rfl, rfl, .inr ⟨rfl, k, q⟩⟩
theorem Fit_bad {h : api_Hist} (o : OkH h) (hb : histE h ≠ 0) (most : Int) : hist_Fit h most = some (H0, histE h) ∧ ref08_Fit h most = some (H0, histE h) := by
  constructor
  · unfold hist_Fit
    rw [Check_eq o, bind_some, bifT (by simp [hb])]; rfl
  · unfold ref08_Fit
    rw [RCheck_eq o, bind_some, bifT (by simp [hb])]; rfl
end Go.Lg
