/- Lemmas about the given model and about plain data, which the rows stand on: no statement of the program by itself. -/
import Derived.Test.YtdpokdaeekanjaaLg08d
set_option linter.unusedVariables false
namespace Go.Lg
attribute [local irreducible] w64 toU64 toU8 shlU shrU shlB shrB

/-! ### a bucket -/
def atS (s : api_Side) (i : Int) : UInt64 := if s.Offset ≤ i then s.Counts.getD (i - s.Offset).toNat 0 else 0
theorem toU64_diff {a b : Int} (ha : I64 a) (hb : I64 b) (h : b ≤ a) : (toU64 a - toU64 b).toNat = (a - b).toNat := by
  unfold I64 at ha hb
  rw [UInt64.toNat_sub]
  have e1 : (toU64 a).toNat = (a % 18446744073709551616).toNat := by
    unfold toU64
    simp only [UInt64.toNat_ofNat']
    rw [Nat.mod_eq_of_lt]; omega
  have e2 : (toU64 b).toNat = (b % 18446744073709551616).toNat := by
    unfold toU64
    simp only [UInt64.toNat_ofNat']
    rw [Nat.mod_eq_of_lt]; omega
  rw [e1, e2]; omega
theorem At_eq {s : api_Side} {i : Int} (ho : I64 s.Offset) (hi : I64 i) (hl : s.Counts.length ≤ 1000000) : hist_At s i = some (atS s i) := by
  unfold hist_At atS
  by_cases h : s.Offset ≤ i
  · rw [if_pos h]
    have hd := toU64_diff hi ho h
    have hn := toU64_nat (x := s.Counts.length) (by omega)
    by_cases hlt : (i - s.Offset).toNat < s.Counts.length
    · rw [bifF, idx_of (n := (i - s.Offset).toNat) _ hlt, bind_some, getD_lt hlt]
      · rw [w64_id] <;> unfold I64 at * <;> omega
      · rw [Bool.or_eq_false_iff]
        exact ⟨decide_eq_false (by omega), decide_eq_false (by rw [UInt64.le_iff_toNat_le, hd, hn]; omega)⟩
    · rw [bifT, List.getD_eq_getElem?_getD, List.getElem?_eq_none (by omega)]; rfl
      rw [Bool.or_eq_true]
      exact .inr (decide_eq_true (by rw [UInt64.le_iff_toNat_le, hd, hn]; omega))
  · rw [if_neg h, bifT]
    rw [Bool.or_eq_true]
    exact .inl (decide_eq_true (by omega))
theorem atS_su (s : api_Side) (i : Int) : su (s.Counts.take (i + 1 - s.Offset).toNat) = su (s.Counts.take (i - s.Offset).toNat) + (atS s i).toNat := by
  unfold atS
  by_cases h : s.Offset ≤ i
  · rw [if_pos h]
    obtain ⟨k, hk⟩ : ∃ k : Nat, i - s.Offset = k := ⟨(i - s.Offset).toNat, by omega⟩
    rw [hk, show (i + 1 - s.Offset).toNat = k + 1 by omega, show ((k : Int)).toNat = k by omega]
    by_cases hlt : k < s.Counts.length
    · rw [su_take_succ hlt, getD_lt hlt]
    · rw [su_all _ (by omega), su_all _ (by omega), List.getD_eq_getElem?_getD, List.getElem?_eq_none (by omega)]; rfl
  · rw [if_neg h, show (i + 1 - s.Offset).toNat = 0 by omega, show (i - s.Offset).toNat = 0 by omega]; rfl
theorem atS_twice {s t : api_Side} (h : DnS 1 s t) (hb : su s.Counts < 18446744073709551616) (i : Int) : atS t i = atS s (2 * i) + atS s (2 * i + 1) := by
  have a1 := atS_su s (2 * i)
  have a2 := atS_su s (2 * i + 1)
  have a3 := atS_su t i
  have b1 := su_take_le s.Counts (2 * i + 1 + 1 - s.Offset).toNat
  apply UInt64.toNat_inj.1
  rw [UInt64.toNat_add, Nat.mod_eq_of_lt (by omega)]
  rcases h with ⟨e, rfl⟩ | ⟨hn, h⟩
  · have e' := List.eq_nil_of_length_eq_zero e
    rw [e'] at a1 a2
    simp only [List.take_nil, su_nil] at a1 a2 a3
    omega
  · have ho := h.o
    rw [Int.pow_one] at ho
    have hsu := h.su
    by_cases hi : t.Offset ≤ i
    · have c1 := hsu (i - t.Offset).toNat
      have c2 := hsu (i + 1 - t.Offset).toNat
      rw [show ((2 : Int) ^ 1 * (t.Offset + ((i - t.Offset).toNat : Int)) - s.Offset).toNat = (2 * i - s.Offset).toNat by omega] at c1
      rw [show ((2 : Int) ^ 1 * (t.Offset + ((i + 1 - t.Offset).toNat : Int)) - s.Offset).toNat = (2 * i + 1 + 1 - s.Offset).toNat by omega] at c2
      omega
    · rw [show (2 * i + 1 + 1 - s.Offset).toNat = 0 by omega] at a2
      rw [show (2 * i + 1 - s.Offset).toNat = 0 by omega] at a1 a2
      rw [show (i + 1 - t.Offset).toNat = 0 by omega, show (i - t.Offset).toNat = 0 by omega] at a3
      simp only [List.take_zero, su_nil] at a1 a2 a3
      omega

/-! ### answers that the document fixes -/
theorem awake08 : law08_awake = some true := by
  have g : Good ⟨3, 0, ⟨-3, [1, 2, 3]⟩, ⟨0, []⟩⟩ := by
    refine ⟨by decide, by decide, (right_iff _).1 (by decide), (right_iff _).1 (by decide), by decide⟩
  obtain ⟨x, x1, x2⟩ := Down_ok g (k := 1) (by decide)
  have hx : DnH 1 ⟨3, 0, ⟨-3, [1, 2, 3]⟩, ⟨0, []⟩⟩ ⟨2, 0, ⟨-2, [1, 5]⟩, ⟨0, []⟩⟩ := by
    refine ⟨rfl, rfl, .inr ⟨by decide, ?_⟩, .inl ⟨rfl, rfl⟩⟩
    refine Dn.of (by decide) (by decide) (by decide) fun j hj => ?_
    have : j = 0 ∨ j = 1 ∨ j = 2 := by simp at hj; omega
    rcases this with rfl | rfl | rfl <;> decide
  obtain rfl := x2.inj hx
  have x1' : hist_Down ⟨3, 0, ⟨-3, [1, 2, 3]⟩, ⟨0, []⟩⟩ 1 = some (⟨2, 0, ⟨-2, [1, 5]⟩, ⟨0, []⟩⟩, 0) := x1
  have c := Check_eq (h := ⟨0, 0, ⟨0, [0, 1]⟩, ⟨0, []⟩⟩) ⟨by unfold I64; decide, by unfold I64; decide, by unfold I64; decide, by decide, by decide⟩
  have a1 := At_eq (s := ⟨-2, [1, 5]⟩) (i := -2) (by unfold I64; decide) (by unfold I64; decide) (by decide)
  have a2 := At_eq (s := ⟨-2, [1, 5]⟩) (i := -1) (by unfold I64; decide) (by unfold I64; decide) (by decide)
  unfold law08_awake
  rw [x1', bind_some]
  dsimp only
  rw [a1, a2, c]
  decide

/-! ### the laws -/
theorem light_eq (h : api_Hist) : ref08_Light h = some (decide ((h.Pos.Counts.length : Int) ≤ 300) && decide ((h.Neg.Counts.length : Int) ≤ 300)) := rfl
structure Is (h : api_Hist) : Prop where
  s : I64 h.Scale
  po : I64 h.Pos.Offset
  no : I64 h.Neg.Offset
theorem Is.ok {h : api_Hist} (i : Is h) (a : (h.Pos.Counts.length : Int) ≤ 300) (b : (h.Neg.Counts.length : Int) ≤ 300) : OkH h := ⟨i.s, i.po, i.no, by omega, by omega⟩
theorem histChecks (h : api_Hist) (i : Is h) : law08_HistChecks h = some true := by
  unfold law08_HistChecks
  rw [awake08, bind_some, bifF (by rfl), light_eq, bind_some]
  by_cases l : (h.Pos.Counts.length : Int) ≤ 300 ∧ (h.Neg.Counts.length : Int) ≤ 300
  · have o := i.ok l.1 l.2
    rw [bifF (by simp [l.1, l.2]), total_eq o.pl o.nl, refTotal_eq o.pl o.nl, bind_some]
    generalize (if tot h < 18446744073709551616 then (UInt64.ofNat (tot h), true) else (0, false)) = p
    obtain ⟨p, q⟩ := p
    dsimp only
    rw [bind_some]
    dsimp only
    rw [Check_eq o, RCheck_eq o, bind_some, bind_some, lett_eq]; simp
  · rw [bifT]
    rw [← Bool.decide_and, decide_eq_false l]; rfl
theorem H0_same : ref08_Same H0 H0 = some true := same_self (by decide) (by decide)
theorem Down_any {h : api_Hist} (o : OkH h) (a : Int) : ∃ x e, hist_Down h a = some (x, e) ∧ ref08_Down h a = some (x, e) ∧ x.Pos.Counts.length ≤ 1000000 ∧ x.Neg.Counts.length ≤ 1000000 := by
  by_cases hb : histE h = 0
  · have g := (good_iff h).1 hb
    by_cases ha : a < 0 ∨ h.Scale + 10 < a
    · have := Down_arg g ha
      exact ⟨H0, 1, this.1, this.2, by decide, by decide⟩
    · obtain ⟨k, rfl⟩ : ∃ k : Nat, a = k := ⟨a.toNat, by omega⟩
      obtain ⟨x, x1, x2⟩ := Down_ok g (k := k) (by omega)
      obtain ⟨y, y1, y2⟩ := RDown_ok g (k := k) (by omega)
      obtain rfl := y2.inj x2
      have := x2.good g (by omega)
      exact ⟨y, 0, x1, y1, by have := this.p.len; omega, by have := this.n.len; omega⟩
  · have := Down_bad o hb a
    exact ⟨H0, _, this.1, this.2, by decide, by decide⟩
theorem Fit_any {h : api_Hist} (o : OkH h) (a : Int) : ∃ x e, hist_Fit h a = some (x, e) ∧ ref08_Fit h a = some (x, e) ∧ x.Pos.Counts.length ≤ 1000000 ∧ x.Neg.Counts.length ≤ 1000000 := by
  by_cases hb : histE h = 0
  · have g := (good_iff h).1 hb
    obtain ⟨x, e, x1, x2, x3⟩ := Fit_eq g a
    refine ⟨x, e, x1, x2, ?_⟩
    rcases x3 with ⟨_, rfl⟩ | ⟨_, k, hk, hx, _⟩
    · exact ⟨by decide, by decide⟩
    · have := hx.good g hk
      exact ⟨by have := this.p.len; omega, by have := this.n.len; omega⟩
  · have := Fit_bad o hb a
    exact ⟨H0, _, this.1, this.2, by decide, by decide⟩
theorem histDowns (h : api_Hist) (a most : Int) (i : Is h) : law08_HistDowns h a most = some true := by
  unfold law08_HistDowns
  rw [awake08, bind_some, bifF (by rfl), light_eq, bind_some]
  by_cases l : (h.Pos.Counts.length : Int) ≤ 300 ∧ (h.Neg.Counts.length : Int) ≤ 300
  · have o := i.ok l.1 l.2
    obtain ⟨x, e, x1, x2, x3, x4⟩ := Down_any o a
    obtain ⟨y, f, y1, y2, y3, y4⟩ := Fit_any o most
    rw [bifF (by simp [l.1, l.2]), x1, x2, y1, y2, bind_some]
    dsimp only
    rw [bind_some]
    dsimp only
    rw [bind_some]
    dsimp only
    rw [bind_some]
    dsimp only
    rw [same_self x3 x4, bind_some, bifT (by simp), same_self y3 y4, bind_some, bind_some, lett_eq]; simp
  · rw [bifT]
    rw [← Bool.decide_and, decide_eq_false l]; rfl
theorem histFits (h : api_Hist) (most : Int) (i : Is h) : law08_HistFits h most = some true := by
  unfold law08_HistFits
  rw [awake08, bind_some, bifF (by rfl), light_eq, bind_some]
  by_cases l : (h.Pos.Counts.length : Int) ≤ 300 ∧ (h.Neg.Counts.length : Int) ≤ 300
  · have o := i.ok l.1 l.2
    rw [bifF (by simp [l.1, l.2])]
    by_cases hb : histE h = 0
    · have g := (good_iff h).1 hb
      obtain ⟨x, e, x1, _, x3⟩ := Fit_eq g most
      rw [x1, bind_some]
      dsimp only
      rcases x3 with ⟨rfl, rfl⟩ | ⟨rfl, k, hk, hx, m1, m2, hf⟩
      · rw [bifT (by decide), show (api_Hist.mk 0 0 (api_Side.mk 0 []) (api_Side.mk 0 [])) = H0 from rfl, H0_same]; rfl
      · have hs := hx.s
        have s1 := g.s1
        have s2 := g.s2
        rw [bifF (by decide), bifF]
        · rcases hf with rfl | ⟨j, y, rfl, hy, hn⟩
          · obtain rfl := hx.inj (DnH.zero g)
            rw [bifTd rfl, same_self o.pl o.nl]; rfl
          · obtain ⟨z, z1, z2⟩ := Down_ok g (k := j) (by omega)
            obtain rfl := z2.inj hy
            have e1 : w64 (h.Scale - x.Scale) = ((j + 1 : Nat) : Int) := by rw [w64_id] <;> omega
            have e2 : w64 (((j + 1 : Nat) : Int) - 1) = (j : Int) := by rw [w64_id] <;> omega
            rw [bifFd (by omega), e1, e2, z1, bind_some]
            dsimp only
            rw [lett_eq]
            simp; omega
        · rw [Bool.or_eq_false_iff, Bool.or_eq_false_iff]
          exact ⟨⟨decide_eq_false (by omega), decide_eq_false (by omega)⟩, decide_eq_false (by omega)⟩
    · rw [(Fit_bad o hb most).1, bind_some]
      dsimp only
      rw [bifT (by simp [hb]), show (api_Hist.mk 0 0 (api_Side.mk 0 []) (api_Side.mk 0 [])) = H0 from rfl, H0_same]; rfl
  · rw [bifT]
    rw [← Bool.decide_and, decide_eq_false l]; rfl
theorem H0_good : Good H0 := ⟨by decide, by decide, (right_iff _).1 (by decide), (right_iff _).1 (by decide), by decide⟩
theorem total_good {h : api_Hist} (g : Good h) : hist_Total h = some (UInt64.ofNat (tot h), true) := by
  rw [total_eq g.ok.pl g.ok.nl, if_pos g.t]
theorem histTwice (h : api_Hist) (a b x : Int) (i : Is h) (ha : I64 a) (hb : I64 b) (hx : I64 x) : law08_HistTwice h a b x = some true := by
  unfold law08_HistTwice
  rw [awake08, bind_some, bifF (by rfl), light_eq, bind_some]
  by_cases l : (h.Pos.Counts.length : Int) ≤ 300 ∧ (h.Neg.Counts.length : Int) ≤ 300
  case neg =>
    rw [bifT]
    rw [← Bool.decide_and, decide_eq_false l]; rfl
  have o := i.ok l.1 l.2
  by_cases hr : (((((a < 0) ∨ (b < 0)) ∨ (100 < a)) ∨ (100 < b)) ∨ (1099511627776 < x)) ∨ (x < (-1099511627776))
  · rw [bifT]
    rw [decide_eq_true l.1, decide_eq_true l.2]
    simpa using hr
  rw [bifF (by rw [decide_eq_true l.1, decide_eq_true l.2]; simpa using hr)]
  have e : w64 (a + b) = a + b := w64_id (by omega) (by omega)
  rw [e]
  by_cases hbad : histE h = 0
  case neg =>
    rw [(Down_bad o hbad a).1, (Down_bad o hbad (a + b)).1, bind_some]
    dsimp only
    obtain ⟨y, f, y1, _⟩ := Down_any H0_good.ok b
    rw [y1, bind_some]
    dsimp only
    rw [bind_some]
    dsimp only
    rw [bifT (by simp [hbad]), lett_eq]; simp [hbad]
  have g := (good_iff h).1 hbad
  have s1 := g.s1
  have s2 := g.s2
  obtain ⟨ka, rfl⟩ : ∃ k : Nat, a = k := ⟨a.toNat, by omega⟩
  obtain ⟨kb, rfl⟩ : ∃ k : Nat, b = k := ⟨b.toNat, by omega⟩
  by_cases h1 : h.Scale + 10 < ka
  · rw [(Down_arg g (.inr h1)).1, (Down_arg g (by_ := (ka : Int) + kb) (.inr (by omega))).1, bind_some]
    dsimp only
    obtain ⟨y, f, y1, _⟩ := Down_any H0_good.ok kb
    rw [y1, bind_some]
    dsimp only
    rw [bind_some]
    dsimp only
    rw [bifT (by rfl), lett_eq]; rfl
  obtain ⟨u, u1, u2⟩ := Down_ok g (k := ka) (by omega)
  have gu := u2.good g (by omega)
  have us := u2.s
  rw [u1, bind_some]
  dsimp only
  by_cases h2 : h.Scale + 10 < ka + kb
  · rw [(Down_arg gu (by_ := (kb : Int)) (.inr (by omega))).1, (Down_arg g (by_ := (ka : Int) + kb) (.inr (by omega))).1, bind_some]
    dsimp only
    rw [bind_some]
    dsimp only
    rw [bifT (by rfl), lett_eq]; rfl
  obtain ⟨v, v1, v2⟩ := Down_ok gu (k := kb) (by omega)
  obtain ⟨z, z1, z2⟩ := Down_ok g (k := ka + kb) (by omega)
  obtain rfl := z2.inj (u2.comp v2)
  have gz := z2.good g (by omega)
  rw [show ((ka : Int) + kb) = ((ka + kb : Nat) : Int) by omega, v1, z1, bind_some]
  dsimp only
  rw [bind_some]
  dsimp only
  rw [bifF (by rfl), total_good g, total_good gz, z2.tot, bind_some]
  dsimp only
  rw [bind_some]
  dsimp only
  rw [bifF (by rfl), same_self gz.ok.pl gz.ok.nl, bind_some, bind_some, bifF (by decide), Check_eq gz.ok, bind_some, (good_iff z).2 gz, bind_some, bifF (by simp)]
  by_cases h3 : h.Scale = -10
  · rw [(Down_arg g (by_ := 1) (.inr (by omega))).1, bind_some]
    dsimp only
    rw [bifT (by rfl), lett_eq, h3]; rfl
  · obtain ⟨w, w1, w2⟩ := Down_ok g (k := 1) (by omega)
    have gw := w2.good g (by omega)
    have w1' : hist_Down h 1 = some (w, 0) := w1
    have e1 : w64 (2 * x) = 2 * x := w64_id (by omega) (by omega)
    have e2 : w64 (2 * x + 1) = 2 * x + 1 := w64_id (by omega) (by omega)
    have i1 : I64 (2 * x) := by unfold I64; omega
    have i2 : I64 (2 * x + 1) := by unfold I64; omega
    rw [w1', bind_some]
    dsimp only
    rw [bifF (by rfl), e1, e2, At_eq gw.ok.po hx gw.ok.pl, At_eq gw.ok.no hx gw.ok.nl, At_eq g.ok.po i1 g.ok.pl, At_eq g.ok.no i1 g.ok.nl, At_eq g.ok.po i2 g.ok.pl, At_eq g.ok.no i2 g.ok.nl]
    rw [bind_some, bind_some, bind_some, bifTd (atS_twice w2.p g.sp x), bind_some, bind_some, bind_some, bind_some, decide_eq_true (atS_twice w2.n g.sn x)]
/-! ### any bucket of a side -/
theorem trimS_len (s : api_Side) : (trimS s).Counts.length ≤ s.Counts.length := by
  unfold trimS
  split
  · simp
  · simp only [List.length_drop, List.length_take]; omega
theorem sides_loop {s : api_Side} (x : Int) (ho : -1100000000000 ≤ s.Offset ∧ s.Offset ≤ 1100000000000) (hl : s.Counts.length ≤ 1000000) : loop (law08_HistSides_lp1 s x) (0, 0) = some (.go (atS s x)) := by
  have key : ∀ (m k : Nat), k + m = s.Counts.length → loop (law08_HistSides_lp1 s x) ((if x < s.Offset + k then atS s x else 0), (k : Int)) = some (.go (atS s x)) := by
    intro m
    induction m with
    | zero =>
      intro k hk
      refine loop_brk ?_
      unfold law08_HistSides_lp1
      dsimp only
      rw [bifFd (by omega)]
      by_cases h : x < s.Offset + k
      · rw [if_pos h]
      · rw [if_neg h]
        unfold atS
        rw [if_pos (by omega), List.getD_eq_getElem?_getD, List.getElem?_eq_none (by omega)]; rfl
    | succ m ih =>
      intro k hk
      rw [loop_next (s' := ((if x < s.Offset + ((k + 1 : Nat) : Int) then atS s x else 0), ((k + 1 : Nat) : Int))), ih (k + 1) (by omega)]
      unfold law08_HistSides_lp1
      dsimp only
      have e := w64_id (x := s.Offset + (k : Int)) (by omega) (by omega)
      rw [bifTd (by omega), e]
      clear e
      by_cases h : s.Offset + (k : Int) = x
      · rw [bifTd h, idx_nat (by omega), bind_some, bind_some, lett_eq, w64_succ (by omega), if_pos (by omega)]
        have : atS s x = s.Counts[k]'(by omega) := by
          unfold atS
          rw [if_pos (by omega), show (x - s.Offset).toNat = k by omega, getD_lt (by omega)]
        rw [this]
      · rw [bifFd h, bind_some, lett_eq, w64_succ (by omega)]
        by_cases h2 : x < s.Offset + k
        · rw [if_pos h2, if_pos (by omega)]
        · rw [if_neg h2, if_neg (by omega)]
  have h0 := key s.Counts.length 0 (by omega)
  by_cases h : x < s.Offset + ((0 : Nat) : Int)
  · rw [if_pos h] at h0
    have : atS s x = 0 := by unfold atS; rw [if_neg (by omega)]
    rw [this] at h0 ⊢
    exact h0
  · rw [if_neg h] at h0
    exact h0
theorem histSides (s : api_Side) (x : Int) (ho : I64 s.Offset) (hx : I64 x) : law08_HistSides s x = some true := by
  unfold law08_HistSides
  rw [awake08, bind_some, bifF (by rfl)]
  by_cases h : ((300 < (s.Counts.length : Int)) ∨ (1099511627776 < s.Offset)) ∨ (s.Offset < (-1099511627776))
  · rw [bifT (by simpa using h)]
  · have hb : -1100000000000 ≤ s.Offset ∧ s.Offset ≤ 1100000000000 := by omega
    have hl : s.Counts.length ≤ 1000000 := by omega
    have := trimS_len s
    rw [bifF (by simpa using h), sides_loop x hb hl, flow_go, bind_some, At_eq ho hx hl, bind_some, bifTd rfl, Trim_eq hb hl, RTrim_eq hb hl, bind_some, bind_some, sameSide_self (by omega)]; rfl
end Go.Lg
