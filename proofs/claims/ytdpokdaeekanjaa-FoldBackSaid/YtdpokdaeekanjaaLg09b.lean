/- Lemmas about the given model and about plain data, which the rows stand on: no statement of the program by itself. -/
import Derived.Test.YtdpokdaeekanjaaLg09
set_option linter.unusedVariables false
namespace Go.Lg
attribute [local irreducible] w64 toU64 toU8 shlU shrU shlB shrB

/-! ### to one scale -/
structure Lev (a b x y : api_Hist) : Prop where
  ga : Good a
  gb : Good b
  dx : DnH (a.Scale - min a.Scale b.Scale).toNat a x
  dy : DnH (b.Scale - min a.Scale b.Scale).toNat b y
theorem Lev.gx {a b x y : api_Hist} (l : Lev a b x y) : Good x := l.dx.good l.ga (by have := l.ga.s1; have := l.gb.s1; omega)
theorem Lev.gy {a b x y : api_Hist} (l : Lev a b x y) : Good y := l.dy.good l.gb (by have := l.ga.s1; have := l.gb.s1; omega)
theorem Lev.sx {a b x y : api_Hist} (l : Lev a b x y) : x.Scale = min a.Scale b.Scale := by have := l.dx.s; omega
theorem Lev.sy {a b x y : api_Hist} (l : Lev a b x y) : y.Scale = min a.Scale b.Scale := by have := l.dy.s; omega
theorem Lev.inj {a b x y x' y' : api_Hist} (l : Lev a b x y) (l' : Lev a b x' y') : x = x' ∧ y = y' := ⟨l.dx.inj l'.dx, l.dy.inj l'.dy⟩
theorem Lev.swap {a b x y : api_Hist} (l : Lev a b x y) : Lev b a y x := by
  have e : min b.Scale a.Scale = min a.Scale b.Scale := by omega
  exact ⟨l.gb, l.ga, by rw [e]; exact l.dy, by rw [e]; exact l.dx⟩
theorem Level_eq {a b : api_Hist} (oa : OkH a) (ob : OkH b) :
    (∃ e, e ≠ 0 ∧ fold_Level a b = some (H0, H0, e) ∧ ref09_Level a b = some ⟨H0, H0, e⟩ ∧ (histE a ≠ 0 ∨ histE b ≠ 0)) ∨ ∃ x y, fold_Level a b = some (x, y, 0) ∧ ref09_Level a b = some ⟨x, y, 0⟩ ∧ Lev a b x y := by
  have r0 : fold_Level_lp1 a b ((0 : Nat) : Int) = if histE a ≠ 0 then some (.out (.out (H0, H0, histE a))) else some (.next ((1 : Nat) : Int)) := by
    unfold fold_Level_lp1
    rw [bifTd (by omega), idx_nat (by simp), bind_some]
    dsimp only [List.getElem_cons_zero]
    rw [Check_eq oa, bind_some]
    by_cases e : histE a = 0
    · rw [if_neg (fun h => h e), bifF (by simp [e]), w64_succ (by omega)]
    · rw [if_pos e, bifT (by simp [e])]; rfl
  have r1 : fold_Level_lp1 a b ((1 : Nat) : Int) = if histE b ≠ 0 then some (.out (.out (H0, H0, histE b))) else some (.next ((2 : Nat) : Int)) := by
    unfold fold_Level_lp1
    rw [bifTd (by omega), idx_nat (by simp), bind_some]
    dsimp only [List.getElem_cons_succ, List.getElem_cons_zero]
    rw [Check_eq ob, bind_some]
    by_cases e : histE b = 0
    · rw [if_neg (fun h => h e), bifF (by simp [e]), w64_succ (by omega)]
    · rw [if_pos e, bifT (by simp [e])]; rfl
  have r2 : fold_Level_lp1 a b ((2 : Nat) : Int) = some (.brk ()) := by
    unfold fold_Level_lp1
    rw [bifFd (by omega)]
  have hL : loop (fold_Level_lp1 a b) 0 = loop (fold_Level_lp1 a b) ((0 : Nat) : Int) := rfl
  unfold fold_Level ref09_Level
  rw [hL, RCheck_eq oa, RCheck_eq ob, bind_some, bind_some]
  by_cases ha : histE a = 0
  case neg =>
    rw [if_pos ha] at r0
    refine .inl ⟨histE a, ha, ?_, ?_, .inl ha⟩
    · rw [loop_out r0]; rfl
    · rw [bifT (by simp [ha])]; rfl
  rw [if_neg (fun h => h ha)] at r0
  rw [loop_next r0, bifF (by simp [ha])]
  by_cases hb : histE b = 0
  case neg =>
    rw [if_pos hb] at r1
    refine .inl ⟨histE b, hb, ?_, ?_, .inr hb⟩
    · rw [loop_out r1]; rfl
    · rw [bifT (by simp [hb])]; rfl
  rw [if_neg (fun h => h hb)] at r1
  have ga := (good_iff a).1 ha
  have gb := (good_iff b).1 hb
  have a1 := ga.s1; have a2 := ga.s2; have b1 := gb.s1; have b2 := gb.s2
  have e1 : w64 (a.Scale - min a.Scale b.Scale) = ((a.Scale - min a.Scale b.Scale).toNat : Int) := by rw [w64_id] <;> omega
  have e2 : w64 (b.Scale - min a.Scale b.Scale) = ((b.Scale - min a.Scale b.Scale).toNat : Int) := by rw [w64_id] <;> omega
  have em : (bif decide (b.Scale < a.Scale) then some b.Scale else some a.Scale) = some (min a.Scale b.Scale) := by
    by_cases h : b.Scale < a.Scale
    · rw [bifTd h]; congr 1; omega
    · rw [bifFd h]; congr 1; omega
  obtain ⟨x, x1, x2⟩ := Down_ok ga (k := (a.Scale - min a.Scale b.Scale).toNat) (by omega)
  obtain ⟨y, y1, y2⟩ := Down_ok gb (k := (b.Scale - min a.Scale b.Scale).toNat) (by omega)
  obtain ⟨x', x1', x2'⟩ := RDown_ok ga (k := (a.Scale - min a.Scale b.Scale).toNat) (by omega)
  obtain ⟨y', y1', y2'⟩ := RDown_ok gb (k := (b.Scale - min a.Scale b.Scale).toNat) (by omega)
  obtain rfl := x2.inj x2'
  obtain rfl := y2.inj y2'
  refine .inr ⟨x, y, ?_, ?_, ⟨ga, gb, x2, y2⟩⟩
  · rw [loop_next r1, loop_brk r2, flow_go, flow_go, lett_eq, e1, e2, x1, bind_some]
    dsimp only
    rw [y1, bind_some]
  · rw [bifF (by simp [hb]), em, bind_some, e1, e2, x1', bind_some]
    dsimp only
    rw [y1', bind_some]

/-! ### put together -/
noncomputable def mlp (A B : api_Side) (o : Int) (x : List UInt64) : (List UInt64 × Int) → Option (Rnd (List UInt64 × Int) (List UInt64) (List UInt64)) := fun (c, i) =>
  bif decide (i < (x.length : Int)) then
    (hist_At A (w64 (o + i))).bind fun p => (hist_At B (w64 (o + i))).bind fun q => (idx c i).bind fun _e => lett (p + q) fun t => (setI c i t).bind fun xs => some (.next (xs, w64 (i + 1)))
  else some (.brk c)
theorem mlp_eq {x y : api_Side} (hx : RightS x) (hy : RightS y) (l : List UInt64) (hl : l.length = widthS x y) (c0 : List UInt64) (hc : c0.length = widthS x y) :
    loop (mlp x y (loS x y) l) (c0, 0) = some (.go (onL (addS x y) (loS x y) (widthS x y))) := by
  have c := cov hx hy
  have cb := c.b
  have cle := c.le
  have hw : (widthS x y : Int) = hiS x y - loS x y := by unfold widthS; omega
  have hxo := hx.off; have hyo := hy.off
  have key : ∀ (m i : Nat) (z : List UInt64), i + m = widthS x y → z.length = widthS x y → z.take i = onL (addS x y) (loS x y) i → loop (mlp x y (loS x y) l) (z, (i : Int)) = some (.go (onL (addS x y) (loS x y) (widthS x y))) := by
    intro m
    induction m with
    | zero =>
      intro i z hi hz ht
      refine loop_brk ?_
      unfold mlp
      dsimp only
      rw [bifFd (by omega)]
      obtain rfl : i = widthS x y := by omega
      rw [List.take_of_length_le (by omega)] at ht
      rw [ht]
    | succ m ih =>
      intro i z hi hz ht
      have hlt : i < z.length := by omega
      have e1 : w64 (loS x y + (i : Int)) = loS x y + i := w64_id (by omega) (by omega)
      have i1 : I64 (loS x y + i) := by unfold I64; omega
      have hb : addS x y (loS x y + i) = atS x (loS x y + i) + atS y (loS x y + i) := rfl
      rw [← ih (i + 1) (z.set i (addS x y (loS x y + i))) (by omega) (by simpa using hz) (by
        rw [take_snoc (by simpa using hlt), onL_succ, List.take_set_of_le (Nat.le_refl i), ht, List.getElem_set_self])]
      refine loop_next ?_
      unfold mlp
      dsimp only
      rw [bifTd (by omega), e1, At_eq (by unfold I64; omega) i1 (by have := hx.len; omega), bind_some, At_eq (by unfold I64; omega) i1 (by have := hy.len; omega), bind_some, idx_nat hlt, bind_some, lett_eq, setI_nat hlt, bind_some, w64_succ (by omega), hb]
  exact key (widthS x y) 0 c0 (by omega) hc (by simp [onL])
/-- a side of the sum, or that it is too wide -/
noncomputable def part (p : Option (Int × Int)) (F : Int → Int → Option (Flow (Int × List UInt64) (api_Hist × Int))) : Option (Flow (Int × List UInt64) (api_Hist × Int)) := p.bind fun (a, b) => F a b
theorem merge_side {x y : api_Side} (hx : RightS x) (hy : RightS y) (lp : Int → List UInt64 → (List UInt64 × Int) → Option (Rnd (List UInt64 × Int) (List UInt64) (List UInt64))) (hlp : ∀ o l, lp o l = mlp x y o l) :
    ((fold_cover x y).bind fun (r233, r234) =>
     bif decide (160 < r234) then
      outs (some ((api_Hist.mk 0 0 (api_Side.mk 0 []) (api_Side.mk 0 [])), (1 : Int)))
     else
     bif decide (r234 = 0) then
      some (.go ((0 : Int), []))
     else
     ((mk r234 (0 : UInt64)).bind fun t308 =>
     some t308).bind fun x299 =>
     (flow (loop (lp r233 x299) (x299, 0)) fun c386 =>
     some c386).bind fun c371 =>
     some (.go (r233, c371))) = if 160 < widthS x y then some (.out (H0, 1)) else some (.go ((mergeS x y).Offset, (mergeS x y).Counts)) := by
  rw [cover_eq hx hy, bind_some]
  dsimp only
  by_cases h : 160 < widthS x y
  · rw [if_pos h, bifTd (by omega)]; rfl
  · rw [if_neg h, bifFd (by omega)]
    unfold mergeS
    by_cases hz : widthS x y = 0
    · rw [bifTd (by omega), if_pos hz]
    · have hm : mk (widthS x y : Int) (0 : UInt64) = some (List.replicate (widthS x y) 0) := by
        unfold mk LIM
        rw [if_pos (by omega)]; simp
      rw [bifFd (by omega), if_neg hz, hm, bind_some, bind_some, hlp, mlp_eq hx hy _ (by simp) _ (by simp), flow_go, bind_some]
def sumH (x y : api_Hist) : api_Hist := ⟨x.Scale, x.Zero + y.Zero, mergeS x.Pos y.Pos, mergeS x.Neg y.Neg⟩
/-- what comes of two that were brought to one scale -/
def mergeE (x y : api_Hist) : api_Hist × Int :=
  if 18446744073709551616 ≤ tot x + tot y then (H0, 4) else if 160 < widthS x.Pos y.Pos ∨ 160 < widthS x.Neg y.Neg then (H0, 1) else (sumH x y, 0)
theorem add64C_iff (a b : Nat) (ha : a < 18446744073709551616) (hb : b < 18446744073709551616) : add64C (UInt64.ofNat a) (UInt64.ofNat b) 0 = 0 ↔ a + b < 18446744073709551616 := by
  have z : (0 : UInt64).toNat = 0 := rfl
  have ea : (UInt64.ofNat a).toNat = a := by rw [UInt64.toNat_ofNat']; omega
  have eb : (UInt64.ofNat b).toNat = b := by rw [UInt64.toNat_ofNat']; omega
  have e : (add64C (UInt64.ofNat a) (UInt64.ofNat b) 0).toNat = (a + b) / 18446744073709551616 := by
    unfold add64C
    rw [ea, eb, z, Nat.add_zero, UInt64.toNat_ofNat']; omega
  rw [← UInt64.toNat_inj, e, z]; omega
theorem Merge_lev {a b x y : api_Hist} (h : fold_Level a b = some (x, y, 0)) (gx : Good x) (gy : Good y) : fold_Merge a b = some (mergeE x y) := by
  unfold fold_Merge
  rw [h, bind_some]
  dsimp only
  rw [bifF (by rfl), total_good gx, bind_some]
  dsimp only
  rw [total_good gy, bind_some]
  dsimp only
  rw [lett_eq, lett_eq]
  have hc := add64C_iff (tot x) (tot y) gx.t gy.t
  unfold mergeE
  by_cases h1 : 18446744073709551616 ≤ tot x + tot y
  · rw [if_pos h1, bifT]; rfl
    rw [Bool.not_eq_true', decide_eq_false_iff_not, hc]; omega
  · rw [if_neg h1, bifF (by rw [Bool.not_eq_false', decide_eq_true_eq, hc]; omega)]
    have m1 := merge_side gx.p gy.p (fold_Merge_lp1 x y) (fun _ _ => rfl)
    have m2 := merge_side gx.n gy.n (fold_Merge_lp2 x y) (fun _ _ => rfl)
    rw [m1, m2]
    by_cases h2 : 160 < widthS x.Pos y.Pos
    · rw [if_pos h2, if_pos (Or.inl h2 : 160 < widthS x.Pos y.Pos ∨ 160 < widthS x.Neg y.Neg)]; rfl
    · rw [if_neg h2, flow_go]
      dsimp only
      by_cases h3 : 160 < widthS x.Neg y.Neg
      · rw [if_pos h3, if_pos (Or.inr h3 : 160 < widthS x.Pos y.Pos ∨ 160 < widthS x.Neg y.Neg)]; rfl
      · rw [if_neg h3, if_neg (by omega), flow_go]; rfl
end Go.Lg
