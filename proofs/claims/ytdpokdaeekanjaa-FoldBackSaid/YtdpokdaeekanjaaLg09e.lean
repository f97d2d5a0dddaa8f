/- Lemmas about the given model and about plain data, which the rows stand on: no statement of the program by itself. -/
import Derived.Test.YtdpokdaeekanjaaLg09d
set_option linter.unusedVariables false
namespace Go.Lg
attribute [local irreducible] w64 toU64 toU8 shlU shrU shlB shrB

theorem Level_good {a b : api_Hist} (ga : Good a) (gb : Good b) : ∃ x y, fold_Level a b = some (x, y, 0) ∧ ref09_Level a b = some ⟨x, y, 0⟩ ∧ Lev a b x y := by
  rcases Level_eq ga.ok gb.ok with ⟨e, _, _, _, h⟩ | h
  · rcases h with h | h
    · exact absurd ((good_iff a).2 ga) h
    · exact absurd ((good_iff b).2 gb) h
  · exact h
theorem Merge_bad {a b : api_Hist} {e : Int} (he : e ≠ 0) (h1 : fold_Level a b = some (H0, H0, e)) (h2 : ref09_Level a b = some ⟨H0, H0, e⟩) :
    fold_Merge a b = some (H0, e) ∧ ref09_Merge a b = some (H0, e) ∧ fold_Sub a b = some (H0, e) ∧ ref09_Sub a b = some (H0, e) := by
  refine ⟨?_, ?_, ?_, ?_⟩
  · unfold fold_Merge
    rw [h1, bind_some]
    dsimp only
    rw [bifT (by simp [he])]; rfl
  · unfold ref09_Merge
    rw [h2, bind_some]
    dsimp only
    rw [bifT (by simp [he])]; rfl
  · unfold fold_Sub
    rw [h1, bind_some]
    dsimp only
    rw [bifT (by simp [he])]; rfl
  · unfold ref09_Sub
    rw [h2, bind_some]
    dsimp only
    rw [bifT (by simp [he])]; rfl
theorem awake09 : law09_awake = some true := by
  have ga : Good ⟨1, 0, ⟨2, [1]⟩, ⟨0, []⟩⟩ := ⟨by decide, by decide, (right_iff _).1 (by decide), (right_iff _).1 (by decide), by decide⟩
  have gb : Good ⟨0, 0, ⟨1, [1]⟩, ⟨0, []⟩⟩ := ⟨by decide, by decide, (right_iff _).1 (by decide), (right_iff _).1 (by decide), by decide⟩
  have gr : Good ⟨0, 0, ⟨1, [2]⟩, ⟨0, []⟩⟩ := ⟨by decide, by decide, (right_iff _).1 (by decide), (right_iff _).1 (by decide), by decide⟩
  obtain ⟨x, y, l1, _, l2⟩ := Level_good ga gb
  have hx : DnH 1 ⟨1, 0, ⟨2, [1]⟩, ⟨0, []⟩⟩ ⟨0, 0, ⟨1, [1]⟩, ⟨0, []⟩⟩ := by
    refine ⟨rfl, rfl, .inr ⟨by decide, ?_⟩, .inl ⟨rfl, rfl⟩⟩
    refine Dn.of (by decide) (by decide) (by decide) fun j hj => ?_
    have : j = 0 ∨ j = 1 := by simp at hj; omega
    rcases this with rfl | rfl <;> decide
  obtain rfl := l2.dx.inj hx
  obtain rfl := l2.dy.inj (DnH.zero gb)
  have m := Merge_lev l1 l2.gx l2.gy
  have e1 : mergeE ⟨0, 0, ⟨1, [1]⟩, ⟨0, []⟩⟩ ⟨0, 0, ⟨1, [1]⟩, ⟨0, []⟩⟩ = (⟨0, 0, ⟨1, [2]⟩, ⟨0, []⟩⟩, 0) := by decide +kernel
  rw [e1] at m
  obtain ⟨x', y', k1, _, k2⟩ := Level_good gr gb
  obtain rfl := k2.dx.inj (DnH.zero gr)
  obtain rfl := k2.dy.inj (DnH.zero gb)
  have s := Sub_lev k1 k2.gx k2.gy
  have e2 : subE ⟨0, 0, ⟨1, [2]⟩, ⟨0, []⟩⟩ ⟨0, 0, ⟨1, [1]⟩, ⟨0, []⟩⟩ = (⟨0, 0, ⟨1, [1]⟩, ⟨0, []⟩⟩, 0) := by decide +kernel
  rw [e2] at s
  have a1 := At_eq (s := ⟨1, [2]⟩) (i := 1) (by unfold I64; decide) (by unfold I64; decide) (by decide)
  have a2 := At_eq (s := ⟨1, [1]⟩) (i := 1) (by unfold I64; decide) (by unfold I64; decide) (by decide)
  have b1 : atS ⟨1, [2]⟩ 1 = 2 := by decide
  have b2 : atS ⟨1, [1]⟩ 1 = 1 := by decide
  rw [b1] at a1
  rw [b2] at a2
  unfold law09_awake
  rw [m, bind_some]
  dsimp only
  rw [s, bind_some]
  dsimp only
  rw [bifT (by rfl), a1, bind_some, bind_some, bifT (by rfl), a2, bind_some, bind_some, bifT (by rfl)]
  rfl
theorem lights {a b : api_Hist} (F : Option Bool) (h : ((a.Pos.Counts.length : Int) ≤ 300 ∧ (a.Neg.Counts.length : Int) ≤ 300) → ((b.Pos.Counts.length : Int) ≤ 300 ∧ (b.Neg.Counts.length : Int) ≤ 300) → F = some true) :
    ((ref08_Light a).bind fun r62 =>
     (bif (!r62) then
     some true
     else
     (ref08_Light b).bind fun r86 =>
     some (!r86)).bind fun x71 =>
     bif x71 then
     some true
     else F) = some true := by
  rw [light_eq, light_eq, bind_some]
  by_cases la : (a.Pos.Counts.length : Int) ≤ 300 ∧ (a.Neg.Counts.length : Int) ≤ 300
  · by_cases lb : (b.Pos.Counts.length : Int) ≤ 300 ∧ (b.Neg.Counts.length : Int) ≤ 300
    · rw [bifF (by simp [la.1, la.2]), bind_some, bind_some, bifF (by simp [lb.1, lb.2]), h la lb]
    · rw [bifF (by simp [la.1, la.2]), bind_some, bind_some, bifT (by rw [← Bool.decide_and, decide_eq_false lb]; rfl)]
  · rw [bifT (by rw [← Bool.decide_and, decide_eq_false la]; rfl), bind_some]; rfl
theorem foldLevels (a b : api_Hist) (ia : Is a) (ib : Is b) : law09_FoldLevels a b = some true := by
  unfold law09_FoldLevels
  rw [awake09, bind_some, bifF (by rfl)]
  refine lights _ fun la lb => ?_
  have oa := ia.ok la.1 la.2
  have ob := ib.ok lb.1 lb.2
  rcases Level_eq oa ob with ⟨e, he, h1, h2, _⟩ | ⟨x, y, h1, h2, l⟩
  · rw [h1, h2, bind_some]
    dsimp only
    rw [bind_some, H0_same, bind_some, bifT (by rfl)]
    dsimp only
    rw [bind_some, bind_some, lett_eq]; simp
  · rw [h1, h2, bind_some]
    dsimp only
    rw [bind_some, same_self l.gx.ok.pl l.gx.ok.nl, bind_some, bifT (by rfl), same_self l.gy.ok.pl l.gy.ok.nl, bind_some, bind_some, lett_eq]; simp
theorem mergeE_len {x y : api_Hist} : (mergeE x y).1.Pos.Counts.length ≤ 160 ∧ (mergeE x y).1.Neg.Counts.length ≤ 160 := by
  have q : ∀ u v : api_Side, ¬ 160 < widthS u v → (mergeS u v).Counts.length ≤ 160 := by
    intro u v h
    unfold mergeS
    split
    · simp
    · dsimp only; rw [onL_len]; omega
  unfold mergeE
  split
  · exact ⟨by simp [H0], by simp [H0]⟩
  · split
    · exact ⟨by simp [H0], by simp [H0]⟩
    · rename_i h
      exact ⟨q _ _ (fun e => h (.inl e)), q _ _ (fun e => h (.inr e))⟩
theorem subE_len {x y : api_Hist} (gx : Good x) : (subE x y).1.Pos.Counts.length ≤ 160 ∧ (subE x y).1.Neg.Counts.length ≤ 160 := by
  have q : ∀ u v : api_Side, u.Counts.length ≤ 160 → (leftT u v).Counts.length ≤ 160 := by
    intro u v h
    have := trimS_len ⟨u.Offset, onL (subS u v) u.Offset u.Counts.length⟩
    simp only [onL_len] at this
    unfold leftT; omega
  unfold subE
  split
  · exact ⟨q _ _ gx.p.len, q _ _ gx.n.len⟩
  · exact ⟨by simp [H0], by simp [H0]⟩
theorem foldMerges (a b : api_Hist) (ia : Is a) (ib : Is b) : law09_FoldMerges a b = some true := by
  unfold law09_FoldMerges
  rw [awake09, bind_some, bifF (by rfl)]
  refine lights _ fun la lb => ?_
  have oa := ia.ok la.1 la.2
  have ob := ib.ok lb.1 lb.2
  have key : ∃ x e z g, fold_Merge a b = some (x, e) ∧ ref09_Merge a b = some (x, e) ∧ fold_Sub a b = some (z, g) ∧ ref09_Sub a b = some (z, g) ∧ x.Pos.Counts.length ≤ 160 ∧ x.Neg.Counts.length ≤ 160 ∧ z.Pos.Counts.length ≤ 160 ∧ z.Neg.Counts.length ≤ 160 := by
    rcases Level_eq oa ob with ⟨e, he, h1, h2, _⟩ | ⟨x, y, h1, h2, l⟩
    · obtain ⟨m1, m2, m3, m4⟩ := Merge_bad he h1 h2
      exact ⟨H0, e, H0, e, m1, m2, m3, m4, by simp [H0], by simp [H0], by simp [H0], by simp [H0]⟩
    · have q1 := mergeE_len (x := x) (y := y)
      have q2 := subE_len (y := y) l.gx
      exact ⟨(mergeE x y).1, (mergeE x y).2, (subE x y).1, (subE x y).2, Merge_lev h1 l.gx l.gy, RMerge_lev h2 l.gx l.gy, Sub_lev h1 l.gx l.gy, RSub_lev h2 l.gx l.gy, q1.1, q1.2, q2.1, q2.2⟩
  obtain ⟨x, e, z, g, m1, m2, m3, m4, p1, p2, p3, p4⟩ := key
  have he : fold_Empty a = some ((decide (a.Zero = 0) && decide ((a.Pos.Counts.length : Int) = 0)) && decide ((a.Neg.Counts.length : Int) = 0)) := rfl
  rw [m1, m2, m3, m4, bind_some]
  dsimp only
  rw [bind_some]
  dsimp only
  rw [bind_some]
  dsimp only
  rw [bind_some]
  dsimp only
  rw [same_self (by omega) (by omega), bind_some, bifT (by simp), same_self (by omega) (by omega), bind_some, bind_some, bifT (by simp), he, bind_some, bind_some, decide_eq_true rfl]
theorem foldBack (a b : api_Hist) (ia : Is a) (ib : Is b) : law09_FoldBack a b = some true := by
  unfold law09_FoldBack
  rw [awake09, bind_some, bifF (by rfl)]
  refine lights _ fun la lb => ?_
  have oa := ia.ok la.1 la.2
  have ob := ib.ok lb.1 lb.2
  have hH : (api_Hist.mk 0 0 (api_Side.mk 0 []) (api_Side.mk 0 [])) = H0 := rfl
  rcases Level_eq oa ob with ⟨e, he, h1, h2, _⟩ | ⟨x, y, h1, h2, l⟩
  · rw [(Merge_bad he h1 h2).1, bind_some]
    dsimp only
    rw [bifT (by simp [he]), hH, H0_same]; rfl
  have gx := l.gx
  have gy := l.gy
  have hm := Merge_lev h1 gx gy
  by_cases c1 : 18446744073709551616 ≤ tot x + tot y
  · have : mergeE x y = (H0, 4) := by unfold mergeE; rw [if_pos c1]
    rw [hm, this, bind_some]
    dsimp only
    rw [bifT (by rfl), hH, H0_same]; rfl
  by_cases c2 : 160 < widthS x.Pos y.Pos ∨ 160 < widthS x.Neg y.Neg
  · have : mergeE x y = (H0, 1) := by unfold mergeE; rw [if_neg c1, if_pos c2]
    rw [hm, this, bind_some]
    dsimp only
    rw [bifT (by rfl), hH, H0_same]; rfl
  have hE : mergeE x y = (sumH x y, 0) := by unfold mergeE; rw [if_neg c1, if_neg c2]
  rw [hm, hE, bind_some]
  dsimp only
  have hz : (x.Zero + y.Zero).toNat = x.Zero.toNat + y.Zero.toNat := by
    unfold tot at c1
    rw [UInt64.toNat_add, Nat.mod_eq_of_lt (by omega)]
  have sp : su x.Pos.Counts + su y.Pos.Counts < 18446744073709551616 := by unfold tot at c1; omega
  have sn : su x.Neg.Counts + su y.Neg.Counts < 18446744073709551616 := by unfold tot at c1; omega
  have rp := merge_right gx.p gy.p sp (by omega)
  have rn := merge_right gx.n gy.n sn (by omega)
  have up := merge_su gx.p gy.p sp
  have un := merge_su gx.n gy.n sn
  have ht : tot (sumH x y) = tot x + tot y := by
    unfold tot sumH
    dsimp only
    rw [hz, up, un]; omega
  have gr : Good (sumH x y) := ⟨gx.s1, gx.s2, rp, rn, by rw [ht]; omega⟩
  have hs : (sumH x y).Scale = min a.Scale b.Scale := l.sx
  have hab : tot x + tot y = tot a + tot b := by rw [l.dx.tot, l.dy.tot]
  -- taken away again
  obtain ⟨x', y', k1, _, k2⟩ := Level_good gr l.gb
  have e1 : ((sumH x y).Scale - min (sumH x y).Scale b.Scale).toNat = 0 := by rw [hs]; omega
  have e2 : (b.Scale - min (sumH x y).Scale b.Scale).toNat = (b.Scale - min a.Scale b.Scale).toNat := by rw [hs]; omega
  have d1 := k2.dx
  rw [e1] at d1
  have d2 := k2.dy
  rw [e2] at d2
  obtain rfl := d1.inj (DnH.zero gr)
  obtain rfl := d2.inj l.dy
  obtain ⟨lp1, lp2⟩ := left_back gx.p gy.p sp (by omega)
  obtain ⟨ln1, ln2⟩ := left_back gx.n gy.n sn (by omega)
  have hsub : subE (sumH x y') y' = (x, 0) := by
    unfold subE
    have hle : y'.Zero ≤ (sumH x y').Zero := by
      rw [UInt64.le_iff_toNat_le]
      show _ ≤ (x.Zero + y'.Zero).toNat
      rw [hz]; omega
    rw [if_pos ⟨hle, lp1, ln1⟩]
    have q1 : leftT (sumH x y').Pos y'.Pos = x.Pos := lp2
    have q2 : leftT (sumH x y').Neg y'.Neg = x.Neg := ln2
    have q3 : (sumH x y').Zero - y'.Zero = x.Zero := by show x.Zero + y'.Zero - y'.Zero = x.Zero; grind
    rw [q1, q2, q3]; rfl
  have hS := Sub_lev k1 gr gy
  rw [hsub] at hS
  -- the other way round
  obtain ⟨u, v, m1, _, m2⟩ := Level_good l.gb l.ga
  obtain ⟨i1, i2⟩ := m2.inj l.swap
  subst i1; subst i2
  have hC := Merge_lev m1 gy gx
  have wp : widthS u.Pos v.Pos = widthS v.Pos u.Pos := by
    have e := merge_comm u.Pos v.Pos gy.p gx.p
    have c := cov gy.p gx.p; have c' := cov gx.p gy.p
    have a1 := gx.p.z; have a2 := gy.p.z
    unfold widthS loS hiS
    split <;> split <;> (try split) <;> omega
  have wn : widthS u.Neg v.Neg = widthS v.Neg u.Neg := by
    have a1 := gx.n.z; have a2 := gy.n.z
    unfold widthS loS hiS
    split <;> split <;> (try split) <;> omega
  have hE' : mergeE u v = (sumH v u, 0) := by
    unfold mergeE
    rw [if_neg (by omega), if_neg (by rw [wp, wn]; exact c2)]
    unfold sumH
    rw [merge_comm u.Pos v.Pos gy.p gx.p, merge_comm u.Neg v.Neg gy.n gx.n, l.sx, l.sy, UInt64.add_comm u.Zero]
  rw [hE'] at hC
  -- how it is asked
  have sa := l.ga.s1; have sa2 := l.ga.s2; have sb := l.gb.s1; have sb2 := l.gb.s2
  have ew : w64 (a.Scale - min a.Scale b.Scale) = ((a.Scale - min a.Scale b.Scale).toNat : Int) := by rw [w64_id] <;> omega
  obtain ⟨z, z1, z2⟩ := Down_ok l.ga (k := (a.Scale - min a.Scale b.Scale).toNat) (by omega)
  obtain rfl := z2.inj l.dx
  rw [bifF (by rfl), total_good l.ga, bind_some]
  dsimp only
  rw [total_good l.gb, bind_some]
  dsimp only
  rw [total_good gr, bind_some]
  dsimp only
  rw [hS, bind_some]
  dsimp only
  rw [ew, z1, bind_some]
  dsimp only
  rw [hC, bind_some]
  dsimp only
  have hu : UInt64.ofNat (tot (sumH z u)) = UInt64.ofNat (tot a) + UInt64.ofNat (tot b) := by
    rw [ht, hab]
    apply UInt64.toNat_inj.1
    have ta := l.ga.t; have tb := l.gb.t
    rw [UInt64.toNat_add, UInt64.toNat_ofNat', UInt64.toNat_ofNat', UInt64.toNat_ofNat']; omega
  rw [hu, bifF (by simp), Check_eq gr.ok, (good_iff _).2 gr, bind_some, bind_some, bifF (by simp), same_self gx.ok.pl gx.ok.nl, bind_some, bifT (by rfl), same_self gr.ok.pl gr.ok.nl, bind_some, bind_some, lett_eq, hs, decide_eq_true rfl]; rfl
end Go.Lg
