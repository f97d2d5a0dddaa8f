/- Lemmas about the given model and about plain data, which the rows stand on: no statement of the program by itself. -/
import Derived.Test.YtoiklipabcecfaaNxLgPart1
set_option linter.unusedVariables false
namespace Go.Lg
attribute [local irreducible] w64 toU64 toU8 shlU shrU shlB shrB
abbrev KindP (p : api_Point) : Prop := (p.Kind = 3 ∧ p.Temp = 0) ∨ ((p.Kind = 1 ∨ p.Kind = 2 ∨ p.Kind = 4 ∨ p.Kind = 5) ∧ (p.Temp = 1 ∨ p.Temp = 2))
abbrev TimeP (p : api_Point) : Prop := (0 ≤ p.Start ∧ p.Time ≤ 4503599627370496) ∧ ((p.Kind = 3 ∧ p.Start = p.Time) ∨ (p.Kind ≠ 3 ∧ p.Start < p.Time))
abbrev OwnP (p : api_Point) : Prop := (p.Kind = 1 ∨ p.Int_ = 0) ∧ ((p.Kind = 2 ∨ p.Kind = 3 ∨ p.Kind = 5) ∨ p.Re = 0) ∧ (p.Kind = 5 ∨ p.Im = 0) ∧ (p.Kind = 4 ∨ p.Hist = H0) ∧ (0 ≤ p.Flags ∧ p.Flags ≤ 31)
def finB (a : UInt64) : Bool := decide (fE a.toNat ≠ 2047)
/-- what is wrong with a point first -/
def chkE (p : api_Point) : Int :=
  if labelE p.Name p.Attrs ≠ 0 then labelE p.Name p.Attrs
  else if ¬ KindP p then 14
  else if (p.Mono = true ∧ ¬ (p.Kind = 1 ∨ p.Kind = 2)) ∨ ¬ TimeP p then 1
  else if ¬ OwnP p then 3
  else if (p.Mono = true ∧ p.Kind = 2) ∧ finB p.Re = false then 11
  else if p.Mono = true ∧ (p.Int_ < 0 ∨ fLess p.Re 0 = true) then 1
  else if p.Kind = 4 then histE p.Hist else 0
structure OkP (p : api_Point) : Prop where
  h : OkH p.Hist
theorem kinds_eq (p : api_Point) : point_kinds p = some (decide (KindP p)) := by
  unfold point_kinds KindP
  simp only [lett_eq]
  by_cases h3 : p.Kind = 3
  · simp [h3]
  · by_cases h1 : p.Kind = 1
    · simp [h1]
    · by_cases h2 : p.Kind = 2
      · simp [h2]
      · by_cases h4 : p.Kind = 4
        · simp [h4]
        · by_cases h5 : p.Kind = 5
          · simp [h5]
          · simp [h1, h2, h3, h4, h5]
theorem times_eq (p : api_Point) : point_times p = some (decide (TimeP p)) := by
  unfold point_times TimeP
  simp only [lett_eq]
  by_cases h : p.Start < 0 ∨ 4503599627370496 < p.Time
  · rw [bifT (by simpa using h), decide_eq_false (by omega)]
  · rw [bifF (by simpa using h)]
    by_cases h3 : p.Kind = 3
    · rw [bifTd h3]; congr 1; rw [decide_eq_decide]; omega
    · rw [bifFd h3]; congr 1; rw [decide_eq_decide]; omega
theorem own_eq {p : api_Point} (o : OkH p.Hist) : point_own p = some (decide (OwnP p)) := by
  unfold point_own OwnP
  simp only [lett_eq]
  rw [bare_eq o.pl o.nl, bind_some]
  by_cases h1 : p.Kind = 1 ∨ p.Int_ = 0
  · rw [bifF (by rcases h1 with h | h <;> simp [h])]
    by_cases h2 : (p.Kind = 2 ∨ p.Kind = 3 ∨ p.Kind = 5) ∨ p.Re = 0
    · rw [bifF (by rcases h2 with (h | h | h) | h <;> simp [h])]
      by_cases h3 : p.Kind = 5 ∨ p.Im = 0
      · rw [bifF (by rcases h3 with h | h <;> simp [h])]
        by_cases h4 : p.Kind = 4 ∨ p.Hist = H0
        · have e : (bif (!decide (p.Kind = 4)) then some (!decide (p.Hist = H0)) else some false : Option Bool) = some false := by
            rcases h4 with h | h
            · rw [bifF (by rw [decide_eq_true h]; rfl)]
            · rw [decide_eq_true h]; cases (!decide (p.Kind = 4)) <;> rfl
          rw [e, bind_some, cond_false]
          by_cases h5 : p.Flags < 0 ∨ 31 < p.Flags
          · rw [bifT (by simpa using h5), decide_eq_false (by omega)]
          · rw [bifF (by simpa using h5), decide_eq_true]; exact ⟨h1, h2, h3, h4, by omega⟩
        · have e : (bif (!decide (p.Kind = 4)) then some (!decide (p.Hist = H0)) else some false : Option Bool) = some true := by
            rw [bifT (by rw [decide_eq_false (fun h => h4 (.inl h))]; rfl), decide_eq_false (fun h => h4 (.inr h))]; rfl
          rw [e, bind_some, cond_true, cond_true, decide_eq_false (fun h => h4 h.2.2.2.1)]
      · have e : ((!decide (p.Kind = 5)) && (!decide (p.Im = 0))) = true := by rw [decide_eq_false (fun h => h3 (.inl h)), decide_eq_false (fun h => h3 (.inr h))]; rfl
        rw [e, cond_true, cond_true, decide_eq_false (fun h => h3 h.2.2.1)]
    · have e : ((!(((decide (p.Kind = 2)) || (decide (p.Kind = 3))) || (decide (p.Kind = 5)))) && (!decide (p.Re = 0))) = true := by
        rw [decide_eq_false (fun h => h2 (.inl (.inl h))), decide_eq_false (fun h => h2 (.inl (.inr (.inl h)))), decide_eq_false (fun h => h2 (.inl (.inr (.inr h)))), decide_eq_false (fun h => h2 (.inr h))]; rfl
      rw [e, cond_true, cond_true, decide_eq_false (fun h => h2 h.2.1)]
  · have e : ((!decide (p.Kind = 1)) && (!decide (p.Int_ = 0))) = true := by rw [decide_eq_false (fun h => h1 (.inl h)), decide_eq_false (fun h => h1 (.inr h))]; rfl
    rw [e, cond_true, cond_true, decide_eq_false (fun h => h1 h.1)]
theorem less_00 : fLess 0 0 = false := by decide +kernel
theorem chk_eq {p : api_Point} (o : OkH p.Hist) : point_Check p = some (chkE p) := by
  unfold point_Check chkE
  rw [label_eq, bind_some]
  by_cases h1 : labelE p.Name p.Attrs = 0
  · rw [bifF (by rw [decide_eq_true h1]; rfl), if_neg (by simpa using h1), kinds_eq, bind_some, lett_eq]
    by_cases h2 : KindP p
    · rw [bifF (by rw [decide_eq_true h2]; rfl), if_neg (fun h => h h2)]
      have e1 : (((bif p.Mono then (point_sum p).bind fun r78 => some (!r78) else some false : Option Bool).bind fun x68 =>
 bif x68 then
 some x68
 else
 (point_times p).bind fun r95 =>
 lett ((!r95)) fun t104 =>
 some t104) : Option Bool) = some (decide ((p.Mono = true ∧ ¬ (p.Kind = 1 ∨ p.Kind = 2)) ∨ ¬ TimeP p)) := by
        unfold point_sum
        rw [times_eq, bind_some, lett_eq, lett_eq, bind_some]
        have fin : (!decide (TimeP p)) = decide ((p.Mono = true ∧ ¬ (p.Kind = 1 ∨ p.Kind = 2)) ∨ ¬ TimeP p) ∨ (p.Mono = true ∧ ¬ (p.Kind = 1 ∨ p.Kind = 2)) := by
          by_cases hb : p.Mono = true ∧ ¬ (p.Kind = 1 ∨ p.Kind = 2)
          · exact .inr hb
          · refine .inl ?_
            by_cases hT : TimeP p
            · rw [decide_eq_true hT, decide_eq_false (fun h => h.elim hb (fun h => h hT))]; rfl
            · rw [decide_eq_false hT, decide_eq_true (.inr hT)]; rfl
        rcases fin with hf | hf
        · rw [← hf]
          cases hm : p.Mono with
          | false => rfl
          | true =>
            rw [cond_true, bind_some]
            by_cases hk : p.Kind = 1 ∨ p.Kind = 2
            · rw [bifF (by rcases hk with h | h <;> simp [h])]
            · rw [hf, decide_eq_true (p := (p.Mono = true ∧ ¬ (p.Kind = 1 ∨ p.Kind = 2)) ∨ ¬ TimeP p) (.inl ⟨hm, hk⟩), decide_eq_false (p := p.Kind = 1) (fun h => hk (.inl h)), decide_eq_false (p := p.Kind = 2) (fun h => hk (.inr h))]; rfl
        · rw [decide_eq_true (p := (p.Mono = true ∧ ¬ (p.Kind = 1 ∨ p.Kind = 2)) ∨ ¬ TimeP p) (.inl hf), hf.1, cond_true, bind_some, decide_eq_false (p := p.Kind = 1) (fun h => hf.2 (.inl h)), decide_eq_false (p := p.Kind = 2) (fun h => hf.2 (.inr h))]; rfl
      rw [e1, bind_some]
      by_cases h3 : (p.Mono = true ∧ ¬ (p.Kind = 1 ∨ p.Kind = 2)) ∨ ¬ TimeP p
      · rw [bifTd h3, if_pos h3]
      · rw [bifFd h3, if_neg h3, own_eq o, bind_some, lett_eq]
        by_cases h4 : OwnP p
        · rw [bifF (by rw [decide_eq_true h4]; rfl), if_neg (fun h => h h4), numFinite_eq, bind_some]
          have e2 : (bif (p.Mono && (decide (p.Kind = 2))) then some (!decide (fE p.Re.toNat ≠ 2047)) else some false : Option Bool) = some (decide ((p.Mono = true ∧ p.Kind = 2) ∧ finB p.Re = false)) := by
            unfold finB
            cases p.Mono <;> by_cases hk : p.Kind = 2 <;> by_cases hf : fE p.Re.toNat = 2047 <;> simp [hk, hf]
          rw [e2, bind_some]
          by_cases h5 : (p.Mono = true ∧ p.Kind = 2) ∧ finB p.Re = false
          · rw [bifTd h5, if_pos h5]
          · rw [bifFd h5, if_neg h5]
            unfold num_Less
            have e3 : (bif p.Mono then (bif decide (p.Int_ < 0) then some true else (some (fLess p.Re 0)).bind fun r162 => some r162 : Option Bool).bind fun x155 => some x155 else some false : Option Bool) = some (decide (p.Mono = true ∧ (p.Int_ < 0 ∨ fLess p.Re 0 = true))) := by
              cases p.Mono <;> by_cases hk : p.Int_ < 0 <;> cases fLess p.Re 0 <;> simp [hk]
            rw [e3, bind_some]
            by_cases h6 : p.Mono = true ∧ (p.Int_ < 0 ∨ fLess p.Re 0 = true)
            · rw [bifTd h6, if_pos h6]
            · rw [bifFd h6, if_neg h6, lett_eq]
              by_cases h7 : p.Kind = 4
              · rw [bifTd h7, if_pos h7, Check_eq o, bind_some]
              · rw [bifFd h7, if_neg h7]
        · rw [bifT (by rw [decide_eq_false h4]; rfl), if_pos h4]
    · rw [bifT (by rw [decide_eq_false h2]; rfl), if_pos h2]
  · rw [bifT (by rw [decide_eq_false h1]; rfl), if_pos h1]
theorem rchk_eq {p : api_Point} (o : OkH p.Hist) : ref12_Check p = some (chkE p) := by
  unfold ref12_Check chkE
  rw [rlabel_eq, bind_some]
  by_cases h1 : labelE p.Name p.Attrs = 0
  · rw [bifF (by rw [decide_eq_true h1]; rfl), if_neg (by simpa using h1)]
    by_cases h2 : KindP p
    · have hk := h2
      unfold KindP at hk
      rw [if_neg (fun h => h h2), bifF (by rw [Bool.or_eq_false_iff, decide_eq_false_iff_not, decide_eq_false_iff_not]; omega), bifF (by
        rcases hk with ⟨k1, k2⟩ | ⟨k1, k2⟩
        · simp [k1, k2]
        · have : p.Kind ≠ 3 := by omega
          rcases k2 with k2 | k2 <;> simp [this, k2])]
      by_cases h3 : p.Mono = true ∧ ¬ (p.Kind = 1 ∨ p.Kind = 2)
      · rw [if_pos (.inl h3), bifT (by
          rw [h3.1, decide_eq_false (fun h => h3.2 (.inl h)), decide_eq_false (fun h => h3.2 (.inr h))]; rfl)]
      · rw [bifF (by
          cases hm : p.Mono with
          | false => rfl
          | true =>
            by_cases hh : p.Kind = 1 ∨ p.Kind = 2
            · rcases hh with h | h <;> simp [h]
            · exact absurd ⟨hm, hh⟩ h3)]
        by_cases h4 : TimeP p
        · rw [if_neg (fun h => h.elim h3 (fun h => h h4)), bifF (by
            unfold TimeP at h4
            simp only [Bool.or_eq_false_iff, Bool.and_eq_false_iff, decide_eq_false_iff_not, Bool.not_eq_false', decide_eq_true_eq]
            omega)]
          rw [none_eq o.pl o.nl, bind_some]
          have e1 : (bif (((!decide (p.Kind = 1)) && (!decide (p.Int_ = 0))) || ((!decide (p.Kind = 5)) && (!decide (p.Im = 0)))) then
 some true
 else
 (bif (!decide (p.Kind = 4)) then
 some (!decide (p.Hist = H0))
 else
 some false : Option Bool).bind fun x74 =>
 some x74 : Option Bool) = some (decide (¬ ((p.Kind = 1 ∨ p.Int_ = 0) ∧ (p.Kind = 5 ∨ p.Im = 0) ∧ (p.Kind = 4 ∨ p.Hist = H0)))) := by
            by_cases k1 : p.Kind = 1 <;> by_cases k2 : p.Int_ = 0 <;> by_cases k3 : p.Kind = 5 <;> by_cases k4 : p.Im = 0 <;> by_cases k5 : p.Kind = 4 <;> by_cases k6 : p.Hist = H0 <;> simp [k1, k2, k3, k4, k5, k6]
          rw [e1, bind_some]
          by_cases h5 : OwnP p
          · have h5' := h5
            unfold OwnP at h5'
            rw [if_neg (fun h => h h5), bifFd (fun h => h ⟨h5'.1, h5'.2.2.1, h5'.2.2.2.1⟩), bifF (by
              simp only [Bool.or_eq_false_iff, Bool.and_eq_false_iff, decide_eq_false_iff_not, Bool.not_eq_false', decide_eq_true_eq]
              refine ⟨⟨?_, by omega⟩, by omega⟩
              rcases h5'.2.1 with h | h
              · exact .inl (by omega)
              · exact .inr h), RFin_eq, bind_some]
            have e2 : (bif (p.Mono && (decide (p.Kind = 2))) then some (!decide (fE p.Re.toNat ≠ 2047)) else some false : Option Bool) = some (decide ((p.Mono = true ∧ p.Kind = 2) ∧ finB p.Re = false)) := by
              unfold finB
              cases p.Mono <;> by_cases hk : p.Kind = 2 <;> by_cases hf : fE p.Re.toNat = 2047 <;> simp [hk, hf]
            rw [e2, bind_some]
            by_cases h6 : (p.Mono = true ∧ p.Kind = 2) ∧ finB p.Re = false
            · rw [bifTd h6, if_pos h6]
            · rw [bifFd h6, if_neg h6, Less_eq, bind_some]
              have e3 : ((bif (p.Mono && (decide (p.Kind = 2))) then some (fLess p.Re 0) else some false : Option Bool)) = some ((p.Mono && decide (p.Kind = 2)) && fLess p.Re 0) := by
                cases (p.Mono && decide (p.Kind = 2)) <;> rfl
              rw [e3, bind_some]
              have e4 : ((((p.Mono && decide (p.Kind = 2)) && fLess p.Re 0)) || ((p.Mono && (decide (p.Kind = 1))) && (decide (p.Int_ < 0)))) = decide (p.Mono = true ∧ (p.Int_ < 0 ∨ fLess p.Re 0 = true)) := by
                cases hm : p.Mono with
                | false => simp
                | true =>
                  have hkk : p.Kind = 1 ∨ p.Kind = 2 := by
                    by_cases hh : p.Kind = 1 ∨ p.Kind = 2
                    · exact hh
                    · exact absurd ⟨hm, hh⟩ h3
                  rcases hkk with hkk | hkk
                  · have hre : p.Re = 0 := by rcases h5'.2.1 with h | h; omega; exact h
                    simp [hkk, hre, less_00]
                  · have hin : p.Int_ = 0 := by rcases h5'.1 with h | h; omega; exact h
                    simp [hkk, hin]
              rw [e4]
              by_cases h7 : p.Mono = true ∧ (p.Int_ < 0 ∨ fLess p.Re 0 = true)
              · rw [bifTd h7, if_pos h7]
              · rw [bifFd h7, if_neg h7]
                by_cases h8 : p.Kind = 4
                · rw [bifTd h8, if_pos h8, RCheck_eq o, bind_some]
                · rw [bifFd h8, if_neg h8]
          · rw [if_pos h5]
            by_cases h6 : (p.Kind = 1 ∨ p.Int_ = 0) ∧ (p.Kind = 5 ∨ p.Im = 0) ∧ (p.Kind = 4 ∨ p.Hist = H0)
            · rw [bifFd (fun h => h h6), bifT]
              unfold OwnP at h5
              simp only [Bool.or_eq_true, Bool.and_eq_true, decide_eq_true_eq, Bool.not_eq_true', decide_eq_false_iff_not]
              by_cases h7 : p.Flags < 0 ∨ 31 < p.Flags
              · rcases h7 with h | h
                · exact .inl (.inr h)
                · exact .inr h
              · refine .inl (.inl ⟨?_, fun hre => h5 ⟨h6.1, .inr hre, h6.2.1, h6.2.2, by omega⟩⟩)
                by_cases h8 : p.Kind = 2 ∨ p.Kind = 3 ∨ p.Kind = 5
                · exact absurd ⟨h6.1, .inl h8, h6.2.1, h6.2.2, by omega⟩ h5
                · omega
            · rw [bifTd h6]
        · rw [if_pos (.inr h4), bifT]
          unfold TimeP at h4
          simp only [Bool.or_eq_true, Bool.and_eq_true, decide_eq_true_eq, Bool.not_eq_true', decide_eq_false_iff_not]
          omega
    · rw [if_pos h2]
      unfold KindP at h2
      by_cases h3 : p.Kind < 1 ∨ 5 < p.Kind
      · rw [bifT (by simpa using h3)]
      · rw [bifF (by simpa using h3), bifT]
        simp only [Bool.or_eq_true, Bool.and_eq_true, decide_eq_true_eq, Bool.not_eq_true', decide_eq_false_iff_not]
        omega
  · rw [bifT (by rw [decide_eq_false h1]; rfl), if_pos h1]
end Go.Lg
namespace Go.Lg
attribute [local irreducible] w64 toU64 toU8 shlU shrU shlB shrB
/-- the sum of both, brought to one scale -/
def Comes (x0 y0 z : api_Hist) : Prop := ∃ (ka kb : Nat) (x y : api_Hist), DnH ka x0 x ∧ DnH kb y0 y ∧ (ka : Int) ≤ x0.Scale + 10 ∧ (kb : Int) ≤ y0.Scale + 10 ∧ x.Scale = y.Scale ∧ z = sumH x y ∧ tot x + tot y < 18446744073709551616 ∧ widthS x.Pos y.Pos ≤ 160 ∧ widthS x.Neg y.Neg ≤ 160
/-- right, and as told -/
def TogOk (x0 y0 : api_Hist) (a2 : Int) (res : api_Hist × Bool) : Prop :=
  res = (H0, false) ∨ ∃ z, res = (z, true) ∧ Good z ∧ tot z = tot x0 + tot y0 ∧ tot x0 + tot y0 < 18446744073709551616 ∧ (z.Pos.Counts.length : Int) ≤ a2 ∧ (z.Neg.Counts.length : Int) ≤ a2 ∧ Comes x0 y0 z
theorem tog_loop {x0 y0 : api_Hist} (gx : Good x0) (gy : Good y0) (hs : x0.Scale = y0.Scale) (a2 : Int) : ∀ (m k : Nat) (x y : api_Hist), ((k + m : Nat) : Int) = x0.Scale + 10 → DnH k x0 x → DnH k y0 y →
    ∃ res, loop (tocum_Together_lp1 a2) (x.Scale, x.Zero, x.Pos.Offset, x.Pos.Counts, x.Neg.Offset, x.Neg.Counts, y.Scale, y.Zero, y.Pos.Offset, y.Pos.Counts, y.Neg.Offset, y.Neg.Counts) = some (.out res) ∧
      ((loop (ref16_Together_lp1 a2 ⟨x0, y0, 0⟩) (x0.Scale - k) = some (.out res)) ∨ (loop (ref16_Together_lp1 a2 ⟨x0, y0, 0⟩) (x0.Scale - k) = some (.go ()) ∧ res = (H0, false))) ∧ TogOk x0 y0 a2 res := by
  intro m
  induction m with
  | zero =>
    intro k x y hk dx dy
    have gxk := dx.good gx (by omega)
    have gyk := dy.good gy (by omega)
    have hsk : x.Scale = y.Scale := by rw [dx.s, dy.s, hs]
    obtain ⟨l1, l2⟩ := lev_same gxk gyk hsk
    have m1 := Merge_lev l1 gxk gyk
    have m2 := RMerge_lev l2 gxk gyk
    obtain ⟨xx, r1, r2⟩ := RDown_ok gx (k := k) (by omega)
    obtain ⟨yy, r3, r4⟩ := RDown_ok gy (k := k) (by omega)
    obtain rfl := r2.inj dx
    obtain rfl := r4.inj dy
    have hw : w64 (x0.Scale - (x0.Scale - (k : Int))) = (k : Int) := by have := gx.s2; rw [w64_id] <;> omega
    have m1' : fold_Merge ⟨xx.Scale, xx.Zero, ⟨xx.Pos.Offset, xx.Pos.Counts⟩, ⟨xx.Neg.Offset, xx.Neg.Counts⟩⟩ ⟨yy.Scale, yy.Zero, ⟨yy.Pos.Offset, yy.Pos.Counts⟩, ⟨yy.Neg.Offset, yy.Neg.Counts⟩⟩ = _ := m1
    by_cases c1 : 18446744073709551616 ≤ tot xx + tot yy
    · have e : mergeE xx yy = (H0, 4) := by unfold mergeE; rw [if_pos c1]
      rw [e] at m1' m2
      refine ⟨(H0, false), loop_out ?_, .inl (loop_out ?_), .inl rfl⟩
      · unfold tocum_Together_lp1
        dsimp only
        rw [m1', bind_some]
        dsimp only
        rw [lett_eq, bifTd rfl]; rfl
      · unfold ref16_Together_lp1
        dsimp only
        rw [bifTd (by omega), hw, r1, bind_some]
        dsimp only
        rw [r3, bind_some]
        dsimp only
        rw [m2, bind_some]
        dsimp only
        rw [bifTd rfl]; rfl
    · by_cases c2 : (¬ (160 < widthS xx.Pos yy.Pos ∨ 160 < widthS xx.Neg yy.Neg)) ∧ ((sumH xx yy).Pos.Counts.length : Int) ≤ a2 ∧ ((sumH xx yy).Neg.Counts.length : Int) ≤ a2
      · have e : mergeE xx yy = (sumH xx yy, 0) := by unfold mergeE; rw [if_neg c1, if_neg c2.1]
        rw [e] at m1' m2
        have ht : tot xx + tot yy = tot x0 + tot y0 := by rw [dx.tot, dy.tot]
        refine ⟨(sumH xx yy, true), loop_out ?_, .inl (loop_out ?_), .inr ⟨_, rfl, sumH_good gxk gyk (by omega) (by omega) (by omega), by rw [sumH_tot gxk gyk (by omega), ht], by omega, c2.2.1, c2.2.2, ⟨k, k, xx, yy, dx, dy, by omega, by omega, hsk, rfl, by omega, by omega, by omega⟩⟩⟩
        · unfold tocum_Together_lp1
          dsimp only
          rw [m1', bind_some]
          dsimp only
          rw [lett_eq, bifFd (by omega), lett_eq, bifT (by rw [decide_eq_true rfl, decide_eq_true (by omega)]; rfl)]; rfl
        · unfold ref16_Together_lp1
          dsimp only
          rw [bifTd (by omega), hw, r1, bind_some]
          dsimp only
          rw [r3, bind_some]
          dsimp only
          rw [m2, bind_some]
          dsimp only
          rw [bifFd (by omega), bifT (by rw [decide_eq_true rfl, decide_eq_true c2.2.1, decide_eq_true c2.2.2]; rfl)]; rfl
      · have e4 : (mergeE xx yy).2 ≠ 4 := by unfold mergeE; rw [if_neg c1]; split <;> simp
        have e5 : ¬ ((mergeE xx yy).2 = 0 ∧ ((mergeE xx yy).1.Pos.Counts.length : Int) ≤ a2 ∧ ((mergeE xx yy).1.Neg.Counts.length : Int) ≤ a2) := by
          unfold mergeE
          rw [if_neg c1]
          by_cases c3 : 160 < widthS xx.Pos yy.Pos ∨ 160 < widthS xx.Neg yy.Neg
          · rw [if_pos c3]; simp
          · rw [if_neg c3]; exact fun h => c2 ⟨c3, h.2⟩
        generalize mergeE xx yy = me at *
        obtain ⟨z, ez⟩ := me
        dsimp only at e4 e5
        refine ⟨(H0, false), loop_out ?_, .inr ⟨?_, rfl⟩, .inl rfl⟩
        · unfold tocum_Together_lp1
          dsimp only
          rw [m1', bind_some]
          dsimp only
          rw [lett_eq, bifFd e4, lett_eq, bifF (by
            rw [Bool.and_eq_false_iff, decide_eq_false_iff_not, decide_eq_false_iff_not]
            by_cases h0 : ez = 0
            · exact .inr (by omega)
            · exact .inl h0), lett_eq, bifTd (by have := dx.s; omega)]; rfl
        · rw [loop_next (s' := x0.Scale - (k : Int) - 1), loop_brk (b := ())]
          · unfold ref16_Together_lp1
            rw [bifFd (by omega)]
          · unfold ref16_Together_lp1
            dsimp only
            rw [bifTd (by omega), hw, r1, bind_some]
            dsimp only
            rw [r3, bind_some]
            dsimp only
            rw [m2, bind_some]
            dsimp only
            rw [bifFd e4, bifF (by
              rw [Bool.and_eq_false_iff, Bool.and_eq_false_iff, decide_eq_false_iff_not, decide_eq_false_iff_not, decide_eq_false_iff_not]
              by_cases h0 : ez = 0
              · by_cases h2 : (z.Pos.Counts.length : Int) ≤ a2
                · exact .inr fun h3 => e5 ⟨h0, h2, h3⟩
                · exact .inl (.inr h2)
              · exact .inl (.inl h0)), lett_eq, show w64 (x0.Scale - (k : Int) - 1) = x0.Scale - (k : Int) - 1 by have := gx.s2; rw [w64_id] <;> omega]
  | succ m ih =>
    intro k x y hk dx dy
    have gxk := dx.good gx (by omega)
    have gyk := dy.good gy (by omega)
    have hsk : x.Scale = y.Scale := by rw [dx.s, dy.s, hs]
    obtain ⟨l1, l2⟩ := lev_same gxk gyk hsk
    have m1 := Merge_lev l1 gxk gyk
    have m2 := RMerge_lev l2 gxk gyk
    obtain ⟨xx, r1, r2⟩ := RDown_ok gx (k := k) (by omega)
    obtain ⟨yy, r3, r4⟩ := RDown_ok gy (k := k) (by omega)
    obtain rfl := r2.inj dx
    obtain rfl := r4.inj dy
    have hw : w64 (x0.Scale - (x0.Scale - (k : Int))) = (k : Int) := by have := gx.s2; rw [w64_id] <;> omega
    have m1' : fold_Merge ⟨xx.Scale, xx.Zero, ⟨xx.Pos.Offset, xx.Pos.Counts⟩, ⟨xx.Neg.Offset, xx.Neg.Counts⟩⟩ ⟨yy.Scale, yy.Zero, ⟨yy.Pos.Offset, yy.Pos.Counts⟩, ⟨yy.Neg.Offset, yy.Neg.Counts⟩⟩ = _ := m1
    by_cases c1 : 18446744073709551616 ≤ tot xx + tot yy
    · have e : mergeE xx yy = (H0, 4) := by unfold mergeE; rw [if_pos c1]
      rw [e] at m1' m2
      refine ⟨(H0, false), loop_out ?_, .inl (loop_out ?_), .inl rfl⟩
      · unfold tocum_Together_lp1
        dsimp only
        rw [m1', bind_some]
        dsimp only
        rw [lett_eq, bifTd rfl]; rfl
      · unfold ref16_Together_lp1
        dsimp only
        rw [bifTd (by omega), hw, r1, bind_some]
        dsimp only
        rw [r3, bind_some]
        dsimp only
        rw [m2, bind_some]
        dsimp only
        rw [bifTd rfl]; rfl
    · by_cases c2 : (¬ (160 < widthS xx.Pos yy.Pos ∨ 160 < widthS xx.Neg yy.Neg)) ∧ ((sumH xx yy).Pos.Counts.length : Int) ≤ a2 ∧ ((sumH xx yy).Neg.Counts.length : Int) ≤ a2
      · have e : mergeE xx yy = (sumH xx yy, 0) := by unfold mergeE; rw [if_neg c1, if_neg c2.1]
        rw [e] at m1' m2
        have ht : tot xx + tot yy = tot x0 + tot y0 := by rw [dx.tot, dy.tot]
        refine ⟨(sumH xx yy, true), loop_out ?_, .inl (loop_out ?_), .inr ⟨_, rfl, sumH_good gxk gyk (by omega) (by omega) (by omega), by rw [sumH_tot gxk gyk (by omega), ht], by omega, c2.2.1, c2.2.2, ⟨k, k, xx, yy, dx, dy, by omega, by omega, hsk, rfl, by omega, by omega, by omega⟩⟩⟩
        · unfold tocum_Together_lp1
          dsimp only
          rw [m1', bind_some]
          dsimp only
          rw [lett_eq, bifFd (by omega), lett_eq, bifT (by rw [decide_eq_true rfl, decide_eq_true (by omega)]; rfl)]; rfl
        · unfold ref16_Together_lp1
          dsimp only
          rw [bifTd (by omega), hw, r1, bind_some]
          dsimp only
          rw [r3, bind_some]
          dsimp only
          rw [m2, bind_some]
          dsimp only
          rw [bifFd (by omega), bifT (by rw [decide_eq_true rfl, decide_eq_true c2.2.1, decide_eq_true c2.2.2]; rfl)]; rfl
      · have e4 : (mergeE xx yy).2 ≠ 4 := by unfold mergeE; rw [if_neg c1]; split <;> simp
        have e5 : ¬ ((mergeE xx yy).2 = 0 ∧ ((mergeE xx yy).1.Pos.Counts.length : Int) ≤ a2 ∧ ((mergeE xx yy).1.Neg.Counts.length : Int) ≤ a2) := by
          unfold mergeE
          rw [if_neg c1]
          by_cases c3 : 160 < widthS xx.Pos yy.Pos ∨ 160 < widthS xx.Neg yy.Neg
          · rw [if_pos c3]; simp
          · rw [if_neg c3]; exact fun h => c2 ⟨c3, h.2⟩
        generalize mergeE xx yy = me at *
        obtain ⟨z, ez⟩ := me
        dsimp only at e4 e5
        obtain ⟨x1, d1, d2⟩ := Down_ok gxk (k := 1) (by have := dx.s; omega)
        obtain ⟨y1, d3, d4⟩ := Down_ok gyk (k := 1) (by have := dy.s; omega)
        have d1' : hist_Down ⟨xx.Scale, xx.Zero, ⟨xx.Pos.Offset, xx.Pos.Counts⟩, ⟨xx.Neg.Offset, xx.Neg.Counts⟩⟩ 1 = _ := d1
        have d3' : hist_Down ⟨yy.Scale, yy.Zero, ⟨yy.Pos.Offset, yy.Pos.Counts⟩, ⟨yy.Neg.Offset, yy.Neg.Counts⟩⟩ 1 = _ := d3
        obtain ⟨res, i1, i2, i3⟩ := ih (k + 1) x1 y1 (by omega) (dx.comp d2) (dy.comp d4)
        have hst : ref16_Together_lp1 a2 ⟨x0, y0, 0⟩ (x0.Scale - (k : Int)) = some (.next (x0.Scale - ((k + 1 : Nat) : Int))) := by
          unfold ref16_Together_lp1
          dsimp only
          rw [bifTd (by omega), hw, r1, bind_some]
          dsimp only
          rw [r3, bind_some]
          dsimp only
          rw [m2, bind_some]
          dsimp only
          rw [bifFd e4, bifF (by
            rw [Bool.and_eq_false_iff, Bool.and_eq_false_iff, decide_eq_false_iff_not, decide_eq_false_iff_not, decide_eq_false_iff_not]
            by_cases h0 : ez = 0
            · by_cases h2 : (z.Pos.Counts.length : Int) ≤ a2
              · exact .inr fun h3 => e5 ⟨h0, h2, h3⟩
              · exact .inl (.inr h2)
            · exact .inl (.inl h0)), lett_eq, show w64 (x0.Scale - (k : Int) - 1) = x0.Scale - ((k + 1 : Nat) : Int) by have := gx.s2; rw [w64_id] <;> omega]
        refine ⟨res, ?_, ?_, i3⟩
        · rw [← i1]
          refine loop_next ?_
          unfold tocum_Together_lp1
          dsimp only
          rw [m1', bind_some]
          dsimp only
          rw [lett_eq, bifFd e4, lett_eq, bifF (by
            rw [Bool.and_eq_false_iff, decide_eq_false_iff_not, decide_eq_false_iff_not]
            by_cases h0 : ez = 0
            · exact .inr (by omega)
            · exact .inl h0), lett_eq, bifFd (by have := dx.s; omega), d1', bind_some]
          dsimp only
          rw [d3', bind_some]
        · rw [loop_next hst]; exact i2
theorem together_eq {a b : api_Hist} (oa : OkH a) (ob : OkH b) (a2 : Int) : ∃ res, tocum_Together a b a2 = some res ∧ ref16_Together a b a2 = some res ∧ (res = (H0, false) ∨ (Good a ∧ Good b ∧ TogOk a b a2 res)) := by
  unfold tocum_Together ref16_Together
  rcases Level_eq oa ob with ⟨e, he, h1, h2, _⟩ | ⟨x, y, h1, h2, l⟩
  · refine ⟨(H0, false), ?_, ?_, .inl rfl⟩
    · rw [h1, bind_some]
      dsimp only
      rw [bifT (by rw [decide_eq_false he]; rfl)]; rfl
    · rw [h2, bind_some]
      dsimp only
      rw [bifT (by rw [decide_eq_false he]; rfl)]; rfl
  · have gx := l.gx
    have gy := l.gy
    have hs : x.Scale = y.Scale := by rw [l.sx, l.sy]
    obtain ⟨res, i1, i2, i3⟩ := tog_loop gx gy hs a2 (x.Scale + 10).toNat 0 x y (by have := gx.s1; omega) (DnH.zero gx) (DnH.zero gy)
    have i2' : (loop (ref16_Together_lp1 a2 ⟨x, y, 0⟩) x.Scale = some (.out res)) ∨ (loop (ref16_Together_lp1 a2 ⟨x, y, 0⟩) x.Scale = some (.go ()) ∧ res = (H0, false)) := by simpa using i2
    refine ⟨res, ?_, ?_, .inr ⟨l.ga, l.gb, ?_⟩⟩
    · rw [h1, bind_some]
      dsimp only
      rw [bifF (by rfl), i1, flow_out]
    · rw [h2, bind_some]
      dsimp only
      rw [bifF (by rfl)]
      rcases i2' with i4 | ⟨i4, i5⟩
      · rw [i4, flow_out]
      · rw [i4, flow_go, i5]; rfl
    · unfold TogOk at *
      rw [l.dx.tot, l.dy.tot] at i3
      rcases i3 with i3 | ⟨z, z1, z2, z3, z4, z5, z6, ka, kb, xx, yy, w1, w2, w3, w4, w5⟩
      · exact .inl i3
      · have s1 := l.dx.s; have s2 := l.dy.s
        have t1 := l.ga.s1; have t2 := l.gb.s1
        exact .inr ⟨z, z1, z2, z3, z4, z5, z6, _, _, xx, yy, l.dx.comp w1, l.dy.comp w2, by omega, by omega, w5⟩
end Go.Lg
namespace Go.Lg
theorem w64_def (x : Int) : w64 x = (x + 9223372036854775808) % 18446744073709551616 - 9223372036854775808 := rfl
attribute [local irreducible] w64 toU64 toU8 shlU shrU shlB shrB
def S0 : api_State := ⟨false, 0, 0, 0, 0, 0, H0⟩
def Pt0 : api_Point := ⟨[], [], 0, 0, false, 0, 0, 0, 0, 0, H0, 0⟩
instance decI64 (x : Int) : Decidable (I64 x) := by unfold I64; exact inferInstance
theorem clone_h {h : api_Hist} (hp : h.Pos.Counts.length ≤ 1000000) (hn : h.Neg.Counts.length ≤ 1000000) : hist_Clone h = some h := by
  unfold hist_Clone slices_Clone_uint64_uint64
  rw [app_ok (by simp; omega), bind_some, app_ok (by simp; omega), bind_some]; rfl
theorem clone_p {p : api_Point} (ha : p.Attrs.length ≤ 1000) (o : OkH p.Hist) : point_Clone p = some p := by
  unfold point_Clone slices_Clone_api_Pair_api_Pair
  rw [app_ok (by simp; omega), bind_some, clone_h o.pl o.nl, bind_some]; rfl
/-! ### does a sum go round? -/
theorem half_facts {a : Int} (h : I64 a) : a = 2 * a.tdiv 2 + a.tmod 2 ∧ -1 ≤ a.tmod 2 ∧ a.tmod 2 ≤ 1 ∧ (0 ≤ a → 0 ≤ a.tmod 2) ∧ (a ≤ 0 → a.tmod 2 ≤ 0) := by
  have e := Int.mul_tdiv_add_tmod a 2
  have h1 : a.tmod 2 < 2 := Int.tmod_lt_of_pos a (by omega)
  have h2 : -2 < a.tmod 2 := by
    have := Int.tmod_lt_of_pos (-a) (show (0 : Int) < 2 by omega)
    rw [Int.neg_tmod] at this; omega
  have h3 : 0 ≤ a → 0 ≤ a.tmod 2 := fun q => Int.tmod_nonneg 2 q
  have h4 : a ≤ 0 → a.tmod 2 ≤ 0 := by
    intro q
    have := Int.tmod_nonneg (a := -a) 2 (by omega)
    rw [Int.neg_tmod] at this; omega
  unfold I64 at h
  generalize a.tdiv 2 = q at *
  generalize a.tmod 2 = r at *
  omega
theorem wide_core (h k r q : Int) (hh : -9223372036854775808 ≤ h + k ∧ h + k ≤ 9223372036854775807) (hk : (1 < r + q → h + k + 1 ≤ 9223372036854775807) ∧ (r + q < -1 → -9223372036854775808 ≤ h + k - 1)) (hr : -1 ≤ r ∧ r ≤ 1) (hq : -1 ≤ q ∧ q ≤ 1) (a : Int) (ha : a = 2 * (h + k) + (r + q)) :
    (lett (w64 (h + k)) fun half22 =>
 lett (w64 (r + q)) fun rest23 =>
 (bif decide (1 < rest23) then
 lett (w64 (half22 + 1)) fun half29 =>
 lett (w64 (rest23 - 2)) fun rest30 =>
 some (half29, rest30)
 else
 some (half22, rest23) : Option (Int × Int)).bind fun (half24, rest25) =>
 (bif decide (rest25 < (-1)) then
 lett (w64 (half24 - 1)) fun half36 =>
 lett (w64 (rest25 + 2)) fun rest37 =>
 some (half36, rest37)
 else
 some (half24, rest25) : Option (Int × Int)).bind fun (half31, rest32) =>
 bif ((decide (4611686018427387904 < half31)) || (decide (half31 < (-4611686018427387904)))) then
 some true
 else
 bif decide (half31 = 4611686018427387904) then
 lett (decide (0 ≤ rest32)) fun t42 =>
 some t42
 else
 lett (((decide (half31 = (-4611686018427387904))) && (decide (rest32 < 0)))) fun t45 =>
 some t45) = some (decide (¬ I64 a)) := by
  have fin : ∀ half rest : Int, -1 ≤ rest → rest ≤ 1 → a = 2 * half + rest → (bif ((decide (4611686018427387904 < half)) || (decide (half < (-4611686018427387904)))) then
 some true
 else
 bif decide (half = 4611686018427387904) then
 lett (decide (0 ≤ rest)) fun t42 =>
 some t42
 else
 lett (((decide (half = (-4611686018427387904))) && (decide (rest < 0)))) fun t45 =>
 some t45) = some (decide (¬ I64 a)) := by
    intro half rest h1 h2 h3
    unfold I64
    by_cases c1 : 4611686018427387904 < half ∨ half < -4611686018427387904
    · rw [bifT (by simpa using c1), decide_eq_true (by omega)]
    · rw [bifF (by simpa using c1)]
      by_cases c2 : half = 4611686018427387904
      · rw [bifTd c2, lett_eq]; congr 1; rw [decide_eq_decide]; omega
      · rw [bifFd c2, lett_eq, ← Bool.decide_and]; congr 1; rw [decide_eq_decide]; omega
  rw [lett_eq, lett_eq, w64_id (x := h + k) (by omega) (by omega), w64_id (x := r + q) (by omega) (by omega)]
  by_cases c1 : 1 < r + q
  · rw [bifTd c1, lett_eq, lett_eq, w64_id (x := h + k + 1) (by omega) (by omega), w64_id (x := r + q - 2) (by omega) (by omega), bind_some]
    dsimp only
    rw [bifFd (by omega), bind_some]
    exact fin _ _ (by omega) (by omega) (by omega)
  · rw [bifFd c1, bind_some]
    dsimp only
    by_cases c2 : r + q < -1
    · rw [bifTd c2, lett_eq, lett_eq, w64_id (x := h + k - 1) (by omega) (by omega), w64_id (x := r + q + 2) (by omega) (by omega), bind_some]
      exact fin _ _ (by omega) (by omega) (by omega)
    · rw [bifFd c2, bind_some]
      exact fin _ _ (by omega) (by omega) (by omega)
theorem wide_add {a b : Int} (ha : I64 a) (hb : I64 b) : ref15_Wide a b false = some (decide (¬ I64 (a + b))) := by
  obtain ⟨a1, a2, a3, a4, a5⟩ := half_facts ha
  obtain ⟨b1, b2, b3, b4, b5⟩ := half_facts hb
  have ha' := ha
  have hb' := hb
  unfold I64 at ha' hb'
  unfold ref15_Wide
  rw [lett_eq, lett_eq, lett_eq, lett_eq, w64_id (x := a.tdiv 2) (by omega) (by omega), w64_id (x := b.tdiv 2) (by omega) (by omega), cond_false, bind_some]
  exact wide_core _ _ _ _ (by omega) (by omega) ⟨a2, a3⟩ ⟨b2, b3⟩ _ (by omega)
/-! ### are all finite? -/
theorem fins_eq {l : List UInt64} (hl : l.length ≤ 1000) : tocum_finite l = some (l.all finB) := by
  unfold tocum_finite
  have hs : ∀ i : Nat, i < l.length → tocum_finite_lp1 l (i : Int) = some (rndE i (if finB (l.getD i 0) then none else some false)) := by
    intro i hi
    unfold tocum_finite_lp1
    rw [bifTd (by omega), idx_nat hi, bind_some, numFinite_eq, bind_some, getD_lt hi]
    show (bif !finB l[i] then _ else _) = _
    cases finB l[i]
    · rfl
    · rw [bifF (by rfl), w64_succ (by omega)]; rfl
  rw [scan0 (n := l.length) _ hs (by unfold tocum_finite_lp1; rw [bifFd (by omega)]), flow_E]
  exact all_first fun i hi => by rw [getD_lt hi]
theorem rfins_eq {l : List UInt64} (hl : l.length ≤ 1000) : ref15_Finite l = some (l.all finB) := by
  unfold ref15_Finite
  have hs : ∀ i : Nat, i < l.length → ref15_Finite_lp1 l (i : Int) = some (rndE i (if finB (l.getD i 0) then none else some false)) := by
    intro i hi
    unfold ref15_Finite_lp1
    rw [bifTd (by omega), idx_nat hi, bind_some, RFin_eq, bind_some, getD_lt hi]
    show (bif !finB l[i] then _ else _) = _
    cases finB l[i]
    · rfl
    · rw [bifF (by rfl), lett_eq, w64_succ (by omega)]; rfl
  rw [scan0 (n := l.length) _ hs (by unfold ref15_Finite_lp1; rw [bifFd (by omega)]), flow_E]
  exact all_first fun i hi => by rw [getD_lt hi]
/-! ### the fitted histogram -/
noncomputable def fitR (h : api_Hist) (most : Int) : api_Hist × Int := (hist_Fit h most).getD (H0, 0)
theorem fitR_eq {h : api_Hist} (g : Good h) (most : Int) : hist_Fit h most = some (fitR h most) ∧ ref08_Fit h most = some (fitR h most) ∧
    ((fitR h most).2 = 4 ∨ ((fitR h most).2 = 0 ∧ ∃ k : Nat, (k : Int) ≤ h.Scale + 10 ∧ DnH k h (fitR h most).1 ∧ ((fitR h most).1.Pos.Counts.length : Int) ≤ most ∧ ((fitR h most).1.Neg.Counts.length : Int) ≤ most)) := by
  obtain ⟨x, e, h1, h2, h3⟩ := Fit_eq g most
  have : fitR h most = (x, e) := by unfold fitR; rw [h1]; rfl
  rw [this]
  refine ⟨h1, h2, ?_⟩
  rcases h3 with h3 | ⟨h3, k, h4, h5, h6, h7, _⟩
  · exact .inl h3.1
  · exact .inr ⟨h3, k, h4, h5, h6, h7⟩
noncomputable def fitH (p : api_Point) (temp most : Int) : api_Hist × Int :=
  if chkE p ≠ 0 then (p.Hist, chkE p) else if p.Temp ≠ temp then (p.Hist, 14) else if p.Flags ≠ 0 then (p.Hist, 3) else if p.Kind = 4 then fitR p.Hist most else (p.Hist, 0)
/-- a point that was let in -/
structure InP (p : api_Point) (temp most : Int) (H : api_Hist) : Prop where
  chk : chkE p = 0
  temp : p.Temp = temp
  flags : p.Flags = 0
  hist : (p.Kind = 4 ∧ Good p.Hist ∧ ∃ k : Nat, (k : Int) ≤ p.Hist.Scale + 10 ∧ DnH k p.Hist H ∧ (H.Pos.Counts.length : Int) ≤ most ∧ (H.Neg.Counts.length : Int) ≤ most) ∨ (p.Kind ≠ 4 ∧ p.Hist = H0 ∧ H = H0)
theorem chk0 {p : api_Point} (h : chkE p = 0) : KindP p ∧ (p.Mono = true → p.Kind = 1 ∨ p.Kind = 2) ∧ TimeP p ∧ OwnP p ∧ (p.Mono = true → p.Kind = 2 → finB p.Re = true) ∧ (p.Mono = true → 0 ≤ p.Int_ ∧ fLess p.Re 0 = false) ∧ (p.Kind = 4 → histE p.Hist = 0) ∧ labelE p.Name p.Attrs = 0 := by
  unfold chkE at h
  by_cases h1 : labelE p.Name p.Attrs = 0
  case neg => rw [if_pos h1] at h; exact absurd h h1
  rw [if_neg (fun e => e h1)] at h
  by_cases h2 : KindP p
  case neg => rw [if_pos h2] at h; exact absurd h (by decide)
  rw [if_neg (fun e => e h2)] at h
  by_cases h3 : (p.Mono = true ∧ ¬ (p.Kind = 1 ∨ p.Kind = 2)) ∨ ¬ TimeP p
  case pos => rw [if_pos h3] at h; exact absurd h (by decide)
  rw [if_neg h3] at h
  by_cases h4 : OwnP p
  case neg => rw [if_pos h4] at h; exact absurd h (by decide)
  rw [if_neg (fun e => e h4)] at h
  by_cases h5 : (p.Mono = true ∧ p.Kind = 2) ∧ finB p.Re = false
  case pos => rw [if_pos h5] at h; exact absurd h (by decide)
  rw [if_neg h5] at h
  by_cases h6 : p.Mono = true ∧ (p.Int_ < 0 ∨ fLess p.Re 0 = true)
  case pos => rw [if_pos h6] at h; exact absurd h (by decide)
  rw [if_neg h6] at h
  refine ⟨h2, fun hm => ?_, ?_, h4, fun hm hk => ?_, fun hm => ⟨?_, ?_⟩, fun hk => ?_, h1⟩
  · exact Decidable.byContradiction fun q => h3 (.inl ⟨hm, q⟩)
  · exact Decidable.byContradiction fun q => h3 (.inr q)
  · cases hf : finB p.Re
    · exact absurd ⟨⟨hm, hk⟩, hf⟩ h5
    · rfl
  · exact Decidable.byContradiction fun q => h6 ⟨hm, .inl (by omega)⟩
  · cases hf : fLess p.Re 0
    · rfl
    · exact absurd ⟨hm, .inr hf⟩ h6
  · rw [if_pos hk] at h; exact h
theorem chk_of {p : api_Point} (h1 : labelE p.Name p.Attrs = 0) (h2 : KindP p) (h3 : p.Mono = true → p.Kind = 1 ∨ p.Kind = 2) (h4 : TimeP p) (h5 : OwnP p) (h6 : p.Mono = true → p.Kind = 2 → finB p.Re = true) (h7 : p.Mono = true → 0 ≤ p.Int_ ∧ fLess p.Re 0 = false) (h8 : p.Kind = 4 → Good p.Hist) : chkE p = 0 := by
  unfold chkE
  rw [if_neg (fun e => e h1), if_neg (fun e => e h2), if_neg (fun e => e.elim (fun e => e.2 (h3 e.1)) (fun e => e h4)), if_neg (fun e => e h5), if_neg (fun e => by have := h6 e.1.1 e.1.2; rw [e.2] at this; cases this), if_neg (fun e => by
    have := h7 e.1
    rcases e.2 with q | q
    · omega
    · rw [this.2] at q; cases q)]
  split
  · rename_i hk; exact (good_iff _).2 (h8 hk)
  · rfl
theorem fitH_in {p : api_Point} {temp most : Int} (h : (fitH p temp most).2 = 0) : InP p temp most (fitH p temp most).1 := by
  unfold fitH at *
  by_cases h1 : chkE p = 0
  case neg => rw [if_pos h1] at h; exact absurd h h1
  rw [if_neg (fun e => e h1)] at *
  by_cases h2 : p.Temp = temp
  case neg => rw [if_pos h2] at h; exact absurd (show (14 : Int) = 0 from h) (by decide)
  rw [if_neg (fun e => e h2)] at *
  by_cases h3 : p.Flags = 0
  case neg => rw [if_pos h3] at h; exact absurd (show (3 : Int) = 0 from h) (by decide)
  rw [if_neg (fun e => e h3)] at *
  have hc := chk0 h1
  by_cases h4 : p.Kind = 4
  · rw [if_pos h4] at *
    have g := (good_iff _).1 (hc.2.2.2.2.2.2.1 h4)
    refine ⟨h1, h2, h3, .inl ⟨h4, g, ?_⟩⟩
    rcases (fitR_eq g most).2.2 with q | q
    · rw [q] at h; exact absurd h (by decide)
    · exact q.2
  · rw [if_neg h4] at *
    refine ⟨h1, h2, h3, .inr ⟨h4, ?_, ?_⟩⟩
    · exact hc.2.2.2.1.2.2.2.1.resolve_left h4
    · exact hc.2.2.2.1.2.2.2.1.resolve_left h4
theorem InP.goodH {p : api_Point} {temp most : Int} {H : api_Hist} (i : InP p temp most H) : Good H := by
  rcases i.hist with ⟨_, g, k, h1, h2, _⟩ | ⟨_, _, h⟩
  · exact h2.good g h1
  · rw [h]; exact H0_good
/-- the fitted point -/
noncomputable def fitP (p : api_Point) (temp most : Int) : api_Point := { p with Hist := (fitH p temp most).1 }
noncomputable def togR (a b : api_Hist) (most : Int) : api_Hist × Bool := (tocum_Together a b most).getD (H0, false)
theorem togR_eq {a b : api_Hist} (oa : OkH a) (ob : OkH b) (most : Int) : tocum_Together a b most = some (togR a b most) ∧ ref16_Together a b most = some (togR a b most) ∧ (togR a b most = (H0, false) ∨ (Good a ∧ Good b ∧ TogOk a b most (togR a b most))) := by
  obtain ⟨res, h1, h2, h3⟩ := together_eq oa ob most
  have : togR a b most = res := by unfold togR; rw [h1]; rfl
  rw [this]
  exact ⟨h1, h2, h3⟩
/-! ### a state and a point together -/
def freshS (q : api_Point) : api_State := ⟨true, q.Start, q.Time, q.Int_, q.Re, q.Im, q.Hist⟩
noncomputable def sumC (s : api_State) (q : api_Point) (most : Int) : Option api_State :=
  if q.Kind = 1 then (if I64 (s.Int_ + q.Int_) then some ⟨true, s.Start, q.Time, s.Int_ + q.Int_, s.Re, s.Im, s.Hist⟩ else none)
  else if q.Kind = 4 then (if (togR s.Hist q.Hist most).2 = true then some ⟨true, s.Start, q.Time, s.Int_, s.Re, s.Im, (togR s.Hist q.Hist most).1⟩ else none)
  else if [fAdd s.Re q.Re, fAdd s.Im q.Im].all finB = false ∧ [s.Re, s.Im, q.Re, q.Im].all finB = true then none
  else some ⟨true, s.Start, q.Time, s.Int_, fAdd s.Re q.Re, fAdd s.Im q.Im, s.Hist⟩
noncomputable def stC (s : api_State) (q : api_Point) (most : Int) : api_State × Int :=
  if s.Some = false then (freshS q, 1) else if s.Time < q.Start then (freshS q, 8) else match sumC s q most with
    | none => (freshS q, 16)
    | some t => (t, 0)
def ansP (t : api_State) (q : api_Point) (fl : Int) : api_Point :=
  if q.Kind = 1 then ⟨q.Name, q.Attrs, q.Kind, 1, q.Mono, t.Start, q.Time, t.Int_, 0, 0, H0, fl⟩
  else if q.Kind = 2 then ⟨q.Name, q.Attrs, q.Kind, 1, q.Mono, t.Start, q.Time, 0, t.Re, 0, H0, fl⟩
  else if q.Kind = 5 then ⟨q.Name, q.Attrs, q.Kind, 1, q.Mono, t.Start, q.Time, 0, t.Re, t.Im, H0, fl⟩
  else ⟨q.Name, q.Attrs, q.Kind, 1, q.Mono, t.Start, q.Time, 0, 0, 0, t.Hist, fl⟩
/-- what a point makes of a state -/
noncomputable def nextC (s : api_State) (p : api_Point) (most : Int) : api_State × api_Point × Int :=
  if (fitH p 2 most).2 ≠ 0 then (S0, Pt0, (fitH p 2 most).2)
  else if s.Some = true ∧ p.Time ≤ s.Time then (S0, Pt0, 9)
  else if s.Some = true ∧ p.Start < s.Time then (S0, Pt0, 10)
  else ((stC s (fitP p 2 most) most).1, ansP (stC s (fitP p 2 most) most).1 (fitP p 2 most) (stC s (fitP p 2 most) most).2, 0)
theorem round_test {a b : Int} (ha : I64 a) (hb : I64 b) : ((!decide (decide (a < w64 (a + b)) = decide (0 < b))) && (!decide (b = 0))) = decide (¬ I64 (a + b)) := by
  by_cases h : I64 (a + b)
  · have e : w64 (a + b) = a + b := by unfold I64 at h; exact w64_id h.1 h.2
    rw [e, decide_eq_false (p := ¬ I64 (a + b)) (fun q => q h), show decide (a < a + b) = decide (0 < b) by rw [decide_eq_decide]; omega]
    simp
  · rw [decide_eq_true h]
    have hw : (9223372036854775807 < a + b ∧ w64 (a + b) = a + b - 18446744073709551616) ∨ (a + b < -9223372036854775808 ∧ w64 (a + b) = a + b + 18446744073709551616) := by
      unfold I64 at *
      rw [w64_def]; omega
    unfold I64 at *
    rw [decide_eq_false (p := b = 0) (by omega), Bool.not_false, Bool.and_true, Bool.not_eq_true', decide_eq_false_iff_not, decide_eq_decide]
    omega
theorem add_eq {s : api_State} {q : api_Point} (most : Int) (hs : I64 s.Int_) (hq : I64 q.Int_) (oh : OkH s.Hist) (og : OkH q.Hist) :
    tocum_add ⟨true, s.Start, q.Time, s.Int_, s.Re, s.Im, s.Hist⟩ q most = some (match sumC s q most with | none => (false, ⟨true, s.Start, q.Time, s.Int_, s.Re, s.Im, s.Hist⟩) | some t => (true, t)) := by
  unfold tocum_add sumC
  rw [lett_eq]
  by_cases h1 : q.Kind = 1
  · rw [bifTd h1, if_pos h1, lett_eq, round_test hs hq]
    by_cases h2 : I64 (s.Int_ + q.Int_)
    · rw [bifFd (fun e => e h2), if_pos h2, w64_id h2.1 h2.2]
    · rw [bifTd h2, if_neg h2]
  rw [bifFd h1, if_neg h1, lett_eq]
  by_cases h4 : q.Kind = 4
  · rw [bifTd h4, if_pos h4, (togR_eq oh og most).1, bind_some]
    dsimp only
    rw [bind_some]
    dsimp only
    cases ht : (togR s.Hist q.Hist most).2
    · rw [bifT (by rfl), if_neg (by simp)]
    · rw [bifF (by rfl), if_pos rfl]
  rw [bifFd h4, if_neg h4]
  have hap : num_AddPhasor s.Re s.Im q.Re q.Im = some (fAdd s.Re q.Re, fAdd s.Im q.Im) := rfl
  rw [hap, bind_some]
  dsimp only
  rw [fins_eq (by simp), bind_some]
  cases hf : [fAdd s.Re q.Re, fAdd s.Im q.Im].all finB
  · rw [bifT (by rfl), fins_eq (by simp), bind_some, bind_some]
    cases hg : [s.Re, s.Im, q.Re, q.Im].all finB
    · rw [bifF rfl, if_neg (by simp)]
    · rw [bifT rfl, if_pos ⟨rfl, rfl⟩]
  · rw [bifF (by rfl), bind_some, bifF rfl, if_neg (by simp)]
theorem answer_eq {t : api_State} {q : api_Point} (fl : Int) (ha : q.Attrs.length ≤ 1000) (oq : OkH q.Hist) (ot : OkH t.Hist) : tocum_answer t q fl = some (ansP t q fl) := by
  unfold tocum_answer ansP
  rw [clone_p ha oq, bind_some, lett_eq]
  by_cases h1 : q.Kind = 1
  · rw [bifTd h1, if_pos h1]; rfl
  rw [bifFd h1, if_neg h1, lett_eq]
  by_cases h2 : q.Kind = 2
  · rw [bifTd h2, if_pos h2]; rfl
  rw [bifFd h2, if_neg h2, lett_eq]
  by_cases h5 : q.Kind = 5
  · rw [bifTd h5, if_pos h5]; rfl
  rw [bifFd h5, if_neg h5, clone_h ot.pl ot.nl, bind_some]
noncomputable def tocumK (a0 : api_State) (a1 : api_Point) (a2 : Int) (c80 : Int) (c81 : UInt64) (c82 : Int) (c83 : List UInt64) (c86 : Int) (c87 : List UInt64) (e90 : Int) : Option (api_State × api_Point × Int) :=
 (bif decide (e90 = 0) then
 (tocum_check a0 (api_Point.mk a1.Name a1.Attrs a1.Kind a1.Temp a1.Mono a1.Start a1.Time a1.Int_ a1.Re a1.Im (api_Hist.mk c80 c81 (api_Side.mk c82 c83) (api_Side.mk c86 c87)) a1.Flags)).bind fun r172 =>
 some r172
 else
 some e90 : Option Int).bind fun e146 =>
 bif (!decide (e146 = 0)) then
 some ((api_State.mk false 0 0 0 0 0 (api_Hist.mk 0 0 (api_Side.mk 0 []) (api_Side.mk 0 []))), (api_Point.mk [] [] 0 0 false 0 0 0 0 0 (api_Hist.mk 0 0 (api_Side.mk 0 []) (api_Side.mk 0 [])) 0), e146)
 else
 (lett ((!a0.Some)) fun t310 =>
 bif t310 then
 some (1, true, a0.Start, a1.Time, a0.Int_, a0.Re, a0.Im, a0.Hist.Scale, a0.Hist.Zero, a0.Hist.Pos.Offset, a0.Hist.Pos.Counts, a0.Hist.Neg.Offset, a0.Hist.Neg.Counts)
 else
 lett (decide (a0.Time < a1.Start)) fun t347 =>
 bif t347 then
 some (8, true, a0.Start, a1.Time, a0.Int_, a0.Re, a0.Im, a0.Hist.Scale, a0.Hist.Zero, a0.Hist.Pos.Offset, a0.Hist.Pos.Counts, a0.Hist.Neg.Offset, a0.Hist.Neg.Counts)
 else
 (tocum_add (api_State.mk true a0.Start a1.Time a0.Int_ a0.Re a0.Im a0.Hist) (api_Point.mk a1.Name a1.Attrs a1.Kind a1.Temp a1.Mono a1.Start a1.Time a1.Int_ a1.Re a1.Im (api_Hist.mk c80 c81 (api_Side.mk c82 c83) (api_Side.mk c86 c87)) a1.Flags) a2).bind fun (r431, r432) =>
 lett ((!r431)) fun t449 =>
 bif t449 then
 some (16, r432.Some, r432.Start, r432.Time, r432.Int_, r432.Re, r432.Im, r432.Hist.Scale, r432.Hist.Zero, r432.Hist.Pos.Offset, r432.Hist.Pos.Counts, r432.Hist.Neg.Offset, r432.Hist.Neg.Counts)
 else
 some (0, r432.Some, r432.Start, r432.Time, r432.Int_, r432.Re, r432.Im, r432.Hist.Scale, r432.Hist.Zero, r432.Hist.Pos.Offset, r432.Hist.Pos.Counts, r432.Hist.Neg.Offset, r432.Hist.Neg.Counts) : Option (Int × Bool × Int × Int × Int × UInt64 × UInt64 × Int × UInt64 × Int × List UInt64 × Int × List UInt64)).bind fun (flags280, c282, c283, c284, c285, c286, c287, c288, c289, c290, c291, c294, c295) =>
 (bif (!decide (flags280 = 0)) then
 some (true, a1.Start, a1.Time, a1.Int_, a1.Re, a1.Im, c80, c81, c82, c83, c86, c87)
 else
 some (c282, c283, c284, c285, c286, c287, c288, c289, c290, c291, c294, c295) : Option (Bool × Int × Int × Int × UInt64 × UInt64 × Int × UInt64 × Int × List UInt64 × Int × List UInt64)).bind fun (c486, c487, c488, c489, c490, c491, c492, c493, c494, c495, c498, c499) =>
 (hist_Clone (api_Hist.mk c492 c493 (api_Side.mk c494 c495) (api_Side.mk c498 c499))).bind fun r521 =>
 (tocum_answer (api_State.mk c486 c487 c488 c489 c490 c491 r521) (api_Point.mk a1.Name a1.Attrs a1.Kind a1.Temp a1.Mono a1.Start a1.Time a1.Int_ a1.Re a1.Im (api_Hist.mk c80 c81 (api_Side.mk c82 c83) (api_Side.mk c86 c87)) a1.Flags) flags280).bind fun r606 =>
 some ((api_State.mk c486 c487 c488 c489 c490 c491 r521), r606, 0)
theorem tocumNext_K (a0 : api_State) (a1 : api_Point) (a2 : Int) : tocum_Next a0 a1 a2 =
 (point_Check a1).bind fun r70 =>
 (lett ((!decide (r70 = 0))) fun t96 =>
 bif t96 then
 some (a1.Hist.Scale, a1.Hist.Zero, a1.Hist.Pos.Offset, a1.Hist.Pos.Counts, a1.Hist.Neg.Offset, a1.Hist.Neg.Counts, r70)
 else
 lett ((!decide (a1.Temp = 2))) fun t102 =>
 bif t102 then
 some (a1.Hist.Scale, a1.Hist.Zero, a1.Hist.Pos.Offset, a1.Hist.Pos.Counts, a1.Hist.Neg.Offset, a1.Hist.Neg.Counts, 14)
 else
 lett ((!decide (a1.Flags = 0))) fun t106 =>
 bif t106 then
 some (a1.Hist.Scale, a1.Hist.Zero, a1.Hist.Pos.Offset, a1.Hist.Pos.Counts, a1.Hist.Neg.Offset, a1.Hist.Neg.Counts, 3)
 else
 lett (decide (a1.Kind = 4)) fun t110 =>
 bif t110 then
 (hist_Fit a1.Hist a2).bind fun (r114, r115) =>
 some (r114.Scale, r114.Zero, r114.Pos.Offset, r114.Pos.Counts, r114.Neg.Offset, r114.Neg.Counts, r115)
 else
 some (a1.Hist.Scale, a1.Hist.Zero, a1.Hist.Pos.Offset, a1.Hist.Pos.Counts, a1.Hist.Neg.Offset, a1.Hist.Neg.Counts, r70) : Option (Int × UInt64 × Int × List UInt64 × Int × List UInt64 × Int)).bind fun (c80, c81, c82, c83, c86, c87, e90) =>
 tocumK a0 a1 a2 c80 c81 c82 c83 c86 c87 e90 := rfl
theorem sumC_ok {s : api_State} {q : api_Point} {most : Int} {t : api_State} (oh : OkH s.Hist) (og : OkH q.Hist) (h : sumC s q most = some t) : OkH t.Hist ∧ t.Some = true ∧ t.Start = s.Start ∧ t.Time = q.Time := by
  unfold sumC at h
  by_cases h1 : q.Kind = 1
  · rw [if_pos h1] at h
    by_cases h2 : I64 (s.Int_ + q.Int_)
    · rw [if_pos h2] at h; cases h; exact ⟨oh, rfl, rfl, rfl⟩
    · rw [if_neg h2] at h; cases h
  rw [if_neg h1] at h
  by_cases h4 : q.Kind = 4
  · rw [if_pos h4] at h
    by_cases ht : (togR s.Hist q.Hist most).2 = true
    · rw [if_pos ht] at h; cases h
      refine ⟨?_, rfl, rfl, rfl⟩
      rcases (togR_eq oh og most).2.2 with e | ⟨_, _, e⟩
      · rw [e] at ht; cases ht
      · rcases e with e | ⟨z, e, g, _⟩
        · rw [e] at ht; cases ht
        · rw [e]; exact g.ok
    · rw [if_neg ht] at h; cases h
  rw [if_neg h4] at h
  split at h
  · cases h
  · cases h; exact ⟨oh, rfl, rfl, rfl⟩
theorem stC_ok {s : api_State} {q : api_Point} (most : Int) (oh : OkH s.Hist) (og : OkH q.Hist) : OkH (stC s q most).1.Hist := by
  unfold stC
  split
  · exact og
  · split
    · exact og
    · cases hc : sumC s q most with
      | none => exact og
      | some t => exact (sumC_ok oh og hc).1
theorem check16_eq (s : api_State) (q : api_Point) : tocum_check s q = some (if s.Some = true ∧ q.Time ≤ s.Time then 9 else if s.Some = true ∧ q.Start < s.Time then 10 else 0) := by
  unfold tocum_check
  rw [lett_eq]
  cases hs : s.Some
  · rw [bifT (by rfl), if_neg (by simp), if_neg (by simp)]
  · rw [bifF (by rfl), lett_eq]
    by_cases h1 : q.Time ≤ s.Time
    · rw [bifTd h1, if_pos ⟨rfl, h1⟩]
    · rw [bifFd h1, if_neg (fun e => h1 e.2), lett_eq]
      by_cases h2 : q.Start < s.Time
      · rw [bifTd h2, if_pos ⟨rfl, h2⟩]
      · rw [bifFd h2, if_neg (fun e => h2 e.2)]
theorem tocumK_err (s : api_State) (p : api_Point) (most : Int) (a : Int) (b : UInt64) (c : Int) (d : List UInt64) (e : Int) (f : List UInt64) {E : Int} (h : E ≠ 0) : tocumK s p most a b c d e f E = some (S0, Pt0, E) := by
  unfold tocumK
  rw [bifFd h, bind_some, bifT (by simp [h])]; rfl
theorem tocumK_ok (s : api_State) (p : api_Point) (most : Int) (H : api_Hist) (hs : I64 s.Int_) (hp : I64 p.Int_) (ha : p.Attrs.length ≤ 1000) (oh : OkH s.Hist) (og : OkH H) :
    tocumK s p most H.Scale H.Zero H.Pos.Offset H.Pos.Counts H.Neg.Offset H.Neg.Counts 0 =
      some (if s.Some = true ∧ p.Time ≤ s.Time then (S0, Pt0, 9) else if s.Some = true ∧ p.Start < s.Time then (S0, Pt0, 10)
        else ((stC s { p with Hist := H } most).1, ansP (stC s { p with Hist := H } most).1 { p with Hist := H } (stC s { p with Hist := H } most).2, 0)) := by
  have ec := check16_eq s { p with Hist := H }
  unfold tocumK
  rw [bifTd rfl]
  have ec' : tocum_check s (api_Point.mk p.Name p.Attrs p.Kind p.Temp p.Mono p.Start p.Time p.Int_ p.Re p.Im (api_Hist.mk H.Scale H.Zero (api_Side.mk H.Pos.Offset H.Pos.Counts) (api_Side.mk H.Neg.Offset H.Neg.Counts)) p.Flags) = _ := ec
  rw [ec', bind_some, bind_some]
  dsimp only
  by_cases h1 : s.Some = true ∧ p.Time ≤ s.Time
  · rw [if_pos h1, if_pos h1, bifT (by rfl)]; rfl
  rw [if_neg h1, if_neg h1]
  by_cases h2 : s.Some = true ∧ p.Start < s.Time
  · rw [if_pos h2, if_pos h2, bifT (by rfl)]; rfl
  rw [if_neg h2, if_neg h2, bifF (by rfl)]
  have ans : ∀ (t : api_State) (fl : Int), OkH t.Hist → (tocum_answer t { p with Hist := H } fl) = some (ansP t { p with Hist := H } fl) := fun t fl ot => answer_eq fl ha og ot
  have fin : ∀ (t : api_State) (fl : Int), OkH t.Hist → ((hist_Clone (api_Hist.mk t.Hist.Scale t.Hist.Zero (api_Side.mk t.Hist.Pos.Offset t.Hist.Pos.Counts) (api_Side.mk t.Hist.Neg.Offset t.Hist.Neg.Counts))).bind fun r521 =>
 (tocum_answer (api_State.mk t.Some t.Start t.Time t.Int_ t.Re t.Im r521) (api_Point.mk p.Name p.Attrs p.Kind p.Temp p.Mono p.Start p.Time p.Int_ p.Re p.Im (api_Hist.mk H.Scale H.Zero (api_Side.mk H.Pos.Offset H.Pos.Counts) (api_Side.mk H.Neg.Offset H.Neg.Counts)) p.Flags) fl).bind fun r606 =>
 some ((api_State.mk t.Some t.Start t.Time t.Int_ t.Re t.Im r521), r606, (0 : Int))) = some (t, ansP t { p with Hist := H } fl, 0) := by
    intro t fl ot
    have e := clone_h ot.pl ot.nl
    have e' : hist_Clone (api_Hist.mk t.Hist.Scale t.Hist.Zero (api_Side.mk t.Hist.Pos.Offset t.Hist.Pos.Counts) (api_Side.mk t.Hist.Neg.Offset t.Hist.Neg.Counts)) = some t.Hist := e
    rw [e', bind_some]
    have a := ans t fl ot
    have a' : tocum_answer (api_State.mk t.Some t.Start t.Time t.Int_ t.Re t.Im t.Hist) (api_Point.mk p.Name p.Attrs p.Kind p.Temp p.Mono p.Start p.Time p.Int_ p.Re p.Im (api_Hist.mk H.Scale H.Zero (api_Side.mk H.Pos.Offset H.Pos.Counts) (api_Side.mk H.Neg.Offset H.Neg.Counts)) p.Flags) fl = _ := a
    rw [a', bind_some]
  rw [lett_eq]
  unfold stC
  cases hsm : s.Some
  · rw [bifT (by rfl), bind_some]
    dsimp only
    rw [bifT (by rfl), bind_some, if_pos rfl]
    exact fin (freshS { p with Hist := H }) 1 og
  rw [bifF (by rfl), lett_eq, if_neg (by simp)]
  by_cases h3 : s.Time < p.Start
  · rw [bifTd h3, bind_some]
    dsimp only
    rw [bifT (by rfl), bind_some, if_pos h3]
    exact fin (freshS { p with Hist := H }) 8 og
  rw [bifFd h3, if_neg h3]
  have ea := add_eq (s := s) (q := { p with Hist := H }) most hs hp oh og
  have ea' : tocum_add (api_State.mk true s.Start p.Time s.Int_ s.Re s.Im s.Hist) (api_Point.mk p.Name p.Attrs p.Kind p.Temp p.Mono p.Start p.Time p.Int_ p.Re p.Im (api_Hist.mk H.Scale H.Zero (api_Side.mk H.Pos.Offset H.Pos.Counts) (api_Side.mk H.Neg.Offset H.Neg.Counts)) p.Flags) most = _ := ea
  rw [ea', bind_some]
  cases hc : sumC s { p with Hist := H } most with
  | none =>
    dsimp only
    rw [lett_eq, bifT (by rfl), bind_some]
    dsimp only
    rw [bifT (by rfl), bind_some]
    exact fin (freshS { p with Hist := H }) 16 og
  | some t =>
    dsimp only
    rw [lett_eq, bifF (by rfl), bind_some]
    dsimp only
    rw [bifF (by rfl), bind_some]
    exact fin t 0 (sumC_ok oh og hc).1
theorem fitH_kind {p : api_Point} {temp most : Int} (h1 : chkE p = 0) (h2 : p.Temp = temp) (h3 : p.Flags = 0) : fitH p temp most = if p.Kind = 4 then fitR p.Hist most else (p.Hist, 0) := by
  unfold fitH
  rw [if_neg (fun e => e h1), if_neg (fun e => e h2), if_neg (fun e => e h3)]
theorem tocumNext_eq {s : api_State} {p : api_Point} (most : Int) (hs : I64 s.Int_) (hp : I64 p.Int_) (ha : p.Attrs.length ≤ 1000) (oh : OkH s.Hist) (op : OkH p.Hist) : tocum_Next s p most = some (nextC s p most) := by
  rw [tocumNext_K, chk_eq op, bind_some, lett_eq]
  by_cases h0 : (fitH p 2 most).2 = 0
  · have i := fitH_in h0
    have K := tocumK_ok s p most (fitH p 2 most).1 hs hp ha oh i.goodH.ok
    have ek := fitH_kind (most := most) i.chk i.temp i.flags
    have en : nextC s p most = (if s.Some = true ∧ p.Time ≤ s.Time then (S0, Pt0, 9) else if s.Some = true ∧ p.Start < s.Time then (S0, Pt0, 10)
        else ((stC s (fitP p 2 most) most).1, ansP (stC s (fitP p 2 most) most).1 (fitP p 2 most) (stC s (fitP p 2 most) most).2, 0)) := by
      unfold nextC; rw [if_neg (fun e => e h0)]
    rw [en]
    refine Eq.trans ?_ K
    rw [bifF (by simp [i.chk]), lett_eq, bifF (by simp [i.temp]), lett_eq, bifF (by simp [i.flags]), lett_eq]
    by_cases h4 : p.Kind = 4
    · rw [if_pos h4] at ek
      have g := (good_iff _).1 ((chk0 i.chk).2.2.2.2.2.2.1 h4)
      rw [ek] at h0 ⊢
      rw [bifTd h4, (fitR_eq g most).1, bind_some]
      dsimp only
      rw [bind_some]
      dsimp only
      rw [h0]
    · rw [if_neg h4] at ek
      rw [ek, bifFd h4, bind_some]
      dsimp only
      rw [i.chk]
  · have en : nextC s p most = (S0, Pt0, (fitH p 2 most).2) := by
      unfold nextC; rw [if_pos h0]
    rw [en]
    by_cases h1 : chkE p = 0
    case neg =>
      have e : fitH p 2 most = (p.Hist, chkE p) := by unfold fitH; rw [if_pos h1]
      rw [e, bifT (by simp [h1]), bind_some]
      exact tocumK_err _ _ _ _ _ _ _ _ _ h1
    rw [bifF (by simp [h1]), lett_eq]
    by_cases h2 : p.Temp = 2
    case neg =>
      have e : fitH p 2 most = (p.Hist, 14) := by unfold fitH; rw [if_neg (fun e => e h1), if_pos h2]
      rw [e, bifT (by simp [h2]), bind_some]
      exact tocumK_err _ _ _ _ _ _ _ _ _ (by decide)
    rw [bifF (by simp [h2]), lett_eq]
    by_cases h3 : p.Flags = 0
    case neg =>
      have e : fitH p 2 most = (p.Hist, 3) := by unfold fitH; rw [if_neg (fun e => e h1), if_neg (fun e => e h2), if_pos h3]
      rw [e, bifT (by simp [h3]), bind_some]
      exact tocumK_err _ _ _ _ _ _ _ _ _ (by decide)
    rw [bifF (by simp [h3]), lett_eq]
    have ek := fitH_kind (most := most) h1 h2 h3
    by_cases h4 : p.Kind = 4
    · rw [if_pos h4] at ek
      have g := (good_iff _).1 ((chk0 h1).2.2.2.2.2.2.1 h4)
      rw [ek] at h0 ⊢
      rw [bifTd h4, (fitR_eq g most).1, bind_some]
      dsimp only
      rw [bind_some]
      exact tocumK_err _ _ _ _ _ _ _ _ _ h0
    · rw [if_neg h4] at ek
      rw [ek] at h0
      exact absurd rfl h0
end Go.Lg
namespace Go.Lg
attribute [local irreducible] w64 toU64 toU8 shlU shrU shlB shrB
/-! ### light points -/
def lightA (l : List api_Pair) : Bool := l.all fun a => decide (a.Key.length ≤ 100) && decide (a.Val.length ≤ 100)
theorem rlightA_eq (l : List api_Pair) : ref11_Light l = some (decide (l.length ≤ 20) && lightA l) := by
  unfold ref11_Light
  by_cases h : l.length ≤ 20
  · rw [bifFd (by omega), decide_eq_true h, Bool.true_and]
    have hs : ∀ i : Nat, i < l.length → ref11_Light_lp1 l (i : Int) = some (rndE i (if (decide ((l.getD i P0).Key.length ≤ 100) && decide ((l.getD i P0).Val.length ≤ 100)) = true then none else some false)) := by
      intro i hi
      unfold ref11_Light_lp1
      rw [bifTd (by omega), idx_nat hi, bind_some, bind_some, getD_lt hi]
      by_cases h1 : l[i].Key.length ≤ 100
      · rw [bifFd (by omega), bind_some]
        by_cases h2 : l[i].Val.length ≤ 100
        · rw [bifFd (by omega), lett_eq, w64_succ (by omega), if_pos (by simp [h1, h2])]; rfl
        · rw [bifTd (by omega), if_neg (by simp [h2])]; rfl
      · rw [bifTd (by omega), bind_some, bifT rfl, if_neg (by simp [h1])]; rfl
    rw [scan0 (n := l.length) _ hs (by unfold ref11_Light_lp1; rw [bifFd (by omega)]), flow_E]
    exact all_first (p := fun a : api_Pair => decide (a.Key.length ≤ 100) && decide (a.Val.length ≤ 100)) fun i hi => by rw [getD_lt hi]
  · rw [bifTd (by omega), decide_eq_false h, Bool.false_and]
def lightP (p : api_Point) : Bool := decide (p.Name.length ≤ 100) && ((decide (p.Attrs.length ≤ 20) && lightA p.Attrs) && (decide ((p.Hist.Pos.Counts.length : Int) ≤ 300) && decide ((p.Hist.Neg.Counts.length : Int) ≤ 300)))
theorem rlightP_eq (p : api_Point) : ref12_Light p = some (lightP p) := by
  unfold ref12_Light lightP
  rw [rlightA_eq, light_eq]
  by_cases h : p.Name.length ≤ 100
  · rw [bifTd (by omega), bind_some, bind_some, decide_eq_true h, Bool.true_and]
    cases (decide (p.Attrs.length ≤ 20) && lightA p.Attrs) <;> rfl
  · rw [bifFd (by omega), bind_some, bifF rfl, bind_some, decide_eq_false h, Bool.false_and]
structure LiP (p : api_Point) : Prop where
  la : p.Attrs.length ≤ 20
  lp : (p.Hist.Pos.Counts.length : Int) ≤ 300
  ln : (p.Hist.Neg.Counts.length : Int) ≤ 300
theorem lightP_of {p : api_Point} (h : lightP p = true) : LiP p := by
  unfold lightP at h
  simp only [Bool.and_eq_true, decide_eq_true_eq] at h
  exact ⟨h.2.1.1, h.2.2.1, h.2.2.2⟩
structure IsP (p : api_Point) : Prop where
  i : I64 p.Int_
  h : Is p.Hist
structure IsS (s : api_State) : Prop where
  i : I64 s.Int_
  h : Is s.Hist
theorem LiP.ok {p : api_Point} (l : LiP p) (i : IsP p) : OkH p.Hist := i.h.ok l.lp l.ln
/-! ### by the document -/
theorem rfits_eq {p : api_Point} (temp most : Int) (op : OkH p.Hist) : ref15_Fits p temp most = some (if (fitH p temp most).2 = 0 then (fitP p temp most, 0) else (Pt0, (fitH p temp most).2)) := by
  unfold ref15_Fits fitP
  rw [rchk_eq op, bind_some]
  by_cases h1 : chkE p = 0
  case neg =>
    have e : fitH p temp most = (p.Hist, chkE p) := by unfold fitH; rw [if_pos h1]
    rw [e, bifT (by simp [h1]), if_neg h1]; rfl
  rw [bifF (by simp [h1])]
  by_cases h2 : p.Temp = temp
  case neg =>
    have e : fitH p temp most = (p.Hist, 14) := by unfold fitH; rw [if_neg (fun e => e h1), if_pos h2]
    rw [e, bifT (by simp [h2]), if_neg (show ¬ (14 : Int) = 0 by decide)]; rfl
  rw [bifF (by simp [h2])]
  by_cases h3 : p.Flags = 0
  case neg =>
    have e : fitH p temp most = (p.Hist, 3) := by unfold fitH; rw [if_neg (fun e => e h1), if_neg (fun e => e h2), if_pos h3]
    rw [e, bifT (by simp [h3]), if_neg (show ¬ (3 : Int) = 0 by decide)]; rfl
  rw [bifF (by simp [h3])]
  have ek := fitH_kind (most := most) h1 h2 h3
  by_cases h4 : p.Kind = 4
  · rw [if_pos h4] at ek
    have g := (good_iff _).1 ((chk0 h1).2.2.2.2.2.2.1 h4)
    rw [bifTd h4, (fitR_eq g most).2.1, bind_some, ek]
    dsimp only
    by_cases h5 : (fitR p.Hist most).2 = 0
    · rw [bifF (by simp [h5]), if_pos h5]
    · rw [bifT (by simp [h5]), if_neg h5]; rfl
  · rw [if_neg h4] at ek
    rw [bifFd h4, ek, if_pos rfl]
/-- a state that has values of a kind alone -/
def OwnS (s : api_State) (kind : Int) : Prop :=
  (kind = 1 → s.Re = 0 ∧ s.Im = 0 ∧ s.Hist = H0) ∧ (kind = 2 → s.Int_ = 0 ∧ s.Im = 0 ∧ s.Hist = H0) ∧ (kind = 4 → s.Int_ = 0 ∧ s.Re = 0 ∧ s.Im = 0) ∧ (kind = 5 → s.Int_ = 0 ∧ s.Hist = H0)
theorem own16_eq {s : api_State} (kind : Int) (oh : OkH s.Hist) : ∃ b, ref16_Own s kind = some b ∧ (b = true → OwnS s kind) := by
  have es : ref08_Same s.Hist (api_Hist.mk 0 0 (api_Side.mk 0 []) (api_Side.mk 0 [])) = some (decide (s.Hist = H0)) := sameH_eq oh.pl oh.nl
  unfold ref16_Own OwnS
  rw [es, bind_some, lett_eq]
  by_cases h1 : kind = 1
  · rw [bifTd h1]
    refine ⟨_, rfl, fun h => ?_⟩
    simp only [Bool.and_eq_true, decide_eq_true_eq] at h
    exact ⟨fun _ => ⟨h.1.1, h.1.2, h.2⟩, fun e => by omega, fun e => by omega, fun e => by omega⟩
  rw [bifFd h1, lett_eq]
  by_cases h2 : kind = 2
  · rw [bifTd h2]
    refine ⟨_, rfl, fun h => ?_⟩
    simp only [Bool.and_eq_true, decide_eq_true_eq] at h
    exact ⟨fun e => by omega, fun _ => ⟨h.1.1, h.1.2, h.2⟩, fun e => by omega, fun e => by omega⟩
  rw [bifFd h2, lett_eq]
  by_cases h4 : kind = 4
  · rw [bifTd h4]
    refine ⟨_, rfl, fun h => ?_⟩
    simp only [Bool.and_eq_true, decide_eq_true_eq] at h
    exact ⟨fun e => by omega, fun e => by omega, fun _ => ⟨h.1.1, h.1.2, h.2⟩, fun e => by omega⟩
  rw [bifFd h4, lett_eq]
  by_cases h5 : kind = 5
  · rw [bifTd h5]
    refine ⟨_, rfl, fun h => ?_⟩
    simp only [Bool.and_eq_true, decide_eq_true_eq] at h
    exact ⟨fun e => by omega, fun e => by omega, fun e => by omega, fun _ => ⟨h.1, h.2⟩⟩
  · rw [bifFd h5]
    exact ⟨true, rfl, fun _ => ⟨fun e => by omega, fun e => by omega, fun e => by omega, fun e => by omega⟩⟩
theorem fin0 : finB 0 = true := by decide
theorem add00 : fAdd 0 0 = 0 := by decide +kernel
/-- what a point of its kind alone holds -/
structure KindQ (q : api_Point) : Prop where
  k : q.Kind = 1 ∨ q.Kind = 2 ∨ q.Kind = 4 ∨ q.Kind = 5
  i : q.Kind ≠ 1 → q.Int_ = 0
  r : q.Kind = 1 ∨ q.Kind = 4 → q.Re = 0
  m : q.Kind ≠ 5 → q.Im = 0
  h : q.Kind ≠ 4 → q.Hist = H0
theorem InP.kind {p : api_Point} {temp most : Int} {H : api_Hist} (i : InP p temp most H) (ht : temp ≠ 0) : KindQ { p with Hist := H } := by
  obtain ⟨c1, c2, c3, c4, _⟩ := chk0 i.chk
  have it := i.temp
  unfold KindP at c1
  unfold OwnP at c4
  refine ⟨by dsimp only; omega, fun e => ?_, fun e => ?_, fun e => ?_, fun e => ?_⟩
  · exact c4.1.resolve_left e
  · refine c4.2.1.resolve_left fun q => ?_
    dsimp only at e; omega
  · exact c4.2.2.1.resolve_left e
  · rcases i.hist with ⟨k, _⟩ | ⟨_, _, k⟩
    · exact absurd k e
    · exact k
theorem rsum_eq {s : api_State} {q : api_Point} (most : Int) (kq : KindQ q) (hs : I64 s.Int_) (hq : I64 q.Int_) (oh : OkH s.Hist) (og : OkH q.Hist) (own : OwnS s q.Kind) (hm : s.Some = true) :
    ∃ t b, ref16_sum s q most = some (t, b) ∧ ((sumC s q most = some t ∧ b = true) ∨ (sumC s q most = none ∧ b = false)) := by
  unfold ref16_sum sumC
  rw [lett_eq]
  by_cases h1 : q.Kind = 1
  · rw [bifTd h1, if_pos h1, wide_add hs hq, bind_some]
    by_cases h2 : I64 (s.Int_ + q.Int_)
    · rw [bifFd (fun e => e h2), if_pos h2, lett_eq, w64_id h2.1 h2.2]
      exact ⟨_, _, rfl, .inl ⟨by rw [hm], rfl⟩⟩
    · rw [bifTd h2, if_neg h2]
      exact ⟨_, _, rfl, .inr ⟨rfl, rfl⟩⟩
  rw [bifFd h1, if_neg h1, lett_eq]
  by_cases h2 : q.Kind = 2
  · have o := own.2.1 h2
    have qi := kq.m (by omega)
    rw [bifTd h2, if_neg (show ¬ q.Kind = 4 by omega), Add_eq, bind_some, RFin_eq, bind_some, o.2.1, qi, add00]
    have ef : (decide (fE (fAdd s.Re q.Re).toNat ≠ 2047)) = finB (fAdd s.Re q.Re) := rfl
    have e1 : [fAdd s.Re q.Re, 0].all finB = finB (fAdd s.Re q.Re) := by simp [fin0]
    have e2 : [s.Re, 0, q.Re, 0].all finB = [s.Re, q.Re].all finB := by simp [fin0]
    rw [ef, e1, e2]
    cases hf : finB (fAdd s.Re q.Re)
    · rw [bifT (by rfl), rfins_eq (by simp), bind_some, bind_some]
      cases hg : [s.Re, q.Re].all finB
      · rw [bifF rfl, if_neg (by simp)]
        exact ⟨_, _, rfl, .inl ⟨by rw [hm], rfl⟩⟩
      · rw [bifT rfl, if_pos ⟨rfl, rfl⟩]
        exact ⟨_, _, rfl, .inr ⟨rfl, rfl⟩⟩
    · rw [bifF (by rfl), bind_some, bifF rfl, if_neg (by simp)]
      exact ⟨_, _, rfl, .inl ⟨by rw [hm], rfl⟩⟩
  rw [bifFd h2, lett_eq]
  by_cases h4 : q.Kind = 4
  · rw [bifTd h4, if_pos h4, (togR_eq oh og most).2.1, bind_some]
    dsimp only
    cases ht : (togR s.Hist q.Hist most).2
    · rw [if_neg (by simp)]
      exact ⟨_, _, rfl, .inr ⟨rfl, rfl⟩⟩
    · rw [if_pos rfl]
      exact ⟨_, _, rfl, .inl ⟨by rw [hm], rfl⟩⟩
  have h5 : q.Kind = 5 := by have := kq.k; omega
  rw [bifFd h4, if_neg h4, lett_eq, bifTd h5, Add_eq, bind_some, Add_eq, bind_some, rfins_eq (by simp), bind_some]
  cases hf : [fAdd s.Re q.Re, fAdd s.Im q.Im].all finB
  · rw [bifT (by rfl), rfins_eq (by simp), bind_some, bind_some]
    cases hg : [s.Re, s.Im, q.Re, q.Im].all finB
    · rw [bifF rfl, if_neg (by simp)]
      exact ⟨_, _, rfl, .inl ⟨by rw [hm], rfl⟩⟩
    · rw [bifT rfl, if_pos ⟨rfl, rfl⟩]
      exact ⟨_, _, rfl, .inr ⟨rfl, rfl⟩⟩
  · rw [bifF (by rfl), bind_some, bifF rfl, if_neg (by simp)]
    exact ⟨_, _, rfl, .inl ⟨by rw [hm], rfl⟩⟩
/-- the answer, where the state has values of the point's kind alone -/
theorem ansP_eq {t : api_State} {q : api_Point} (fl : Int) (kq : KindQ q) (own : OwnS t q.Kind) : ansP t q fl = ⟨q.Name, q.Attrs, q.Kind, 1, q.Mono, t.Start, q.Time, t.Int_, t.Re, t.Im, t.Hist, fl⟩ := by
  unfold ansP
  by_cases h1 : q.Kind = 1
  · obtain ⟨a, b, c⟩ := own.1 h1
    rw [if_pos h1, a, b, c]
  rw [if_neg h1]
  by_cases h2 : q.Kind = 2
  · obtain ⟨a, b, c⟩ := own.2.1 h2
    rw [if_pos h2, a, b, c]
  rw [if_neg h2]
  by_cases h5 : q.Kind = 5
  · obtain ⟨a, b⟩ := own.2.2.2 h5
    rw [if_pos h5, a, b]
  have h4 : q.Kind = 4 := by have := kq.k; omega
  obtain ⟨a, b, c⟩ := own.2.2.1 h4
  rw [if_neg h5, a, b, c]
theorem own_fresh {q : api_Point} (kq : KindQ q) : OwnS (freshS q) q.Kind :=
  ⟨fun e => ⟨kq.r (.inl e), kq.m (by omega), kq.h (by omega)⟩, fun e => ⟨kq.i (by omega), kq.m (by omega), kq.h (by omega)⟩, fun e => ⟨kq.i (by omega), kq.r (.inr e), kq.m (by omega)⟩, fun e => ⟨kq.i (by omega), kq.h (by omega)⟩⟩
theorem own_sum {s : api_State} {q : api_Point} {most : Int} {t : api_State} (kq : KindQ q) (own : OwnS s q.Kind) (h : sumC s q most = some t) : OwnS t q.Kind := by
  unfold sumC at h
  by_cases h1 : q.Kind = 1
  · rw [if_pos h1] at h
    by_cases h2 : I64 (s.Int_ + q.Int_)
    · rw [if_pos h2] at h; cases h
      exact ⟨fun e => own.1 e, fun e => by omega, fun e => by omega, fun e => by omega⟩
    · rw [if_neg h2] at h; cases h
  rw [if_neg h1] at h
  by_cases h4 : q.Kind = 4
  · rw [if_pos h4] at h
    by_cases ht : (togR s.Hist q.Hist most).2 = true
    · rw [if_pos ht] at h; cases h
      exact ⟨fun e => by omega, fun e => by omega, fun e => own.2.2.1 e, fun e => by omega⟩
    · rw [if_neg ht] at h; cases h
  rw [if_neg h4] at h
  split at h
  · cases h
  · cases h
    refine ⟨fun e => by omega, fun e => ?_, fun e => by omega, fun e => own.2.2.2 e⟩
    obtain ⟨a, b, c⟩ := own.2.1 e
    refine ⟨a, ?_, c⟩
    show fAdd s.Im q.Im = 0
    rw [b, kq.m (by omega), add00]
theorem refNext_eq {s : api_State} {p : api_Point} (most : Int) (hs : I64 s.Int_) (hp : I64 p.Int_) (oh : OkH s.Hist) (op : OkH p.Hist) (own : OwnS s p.Kind) :
    ref16_Next s p most = some ⟨(nextC s p most).1, (nextC s p most).2.1, (nextC s p most).2.2⟩ := by
  unfold ref16_Next
  rw [rfits_eq 2 most op, bind_some]
  unfold nextC
  by_cases h0 : (fitH p 2 most).2 = 0
  case neg =>
    rw [if_neg h0, if_pos h0]
    dsimp only
    rw [bifT (by simp [h0])]; rfl
  have i := fitH_in h0
  have kq := i.kind (by decide)
  rw [if_pos h0, if_neg (fun e => e h0)]
  dsimp only
  rw [bifF (by rfl)]
  have hq : fitP p 2 most = { p with Hist := (fitH p 2 most).1 } := rfl
  by_cases h1 : s.Some = true ∧ p.Time ≤ s.Time
  · rw [if_pos h1, bifT (by rw [h1.1, hq]; simp [h1.2])]; rfl
  rw [if_neg h1, bifF (by rw [hq]; simpa using h1)]
  by_cases h2 : s.Some = true ∧ p.Start < s.Time
  · rw [if_pos h2, bifT (by rw [h2.1, hq]; simp [h2.2])]; rfl
  rw [if_neg h2, bifF (by rw [hq]; simpa using h2)]
  rw [← hq] at kq
  have hk : (fitP p 2 most).Kind = p.Kind := rfl
  have hst : (fitP p 2 most).Start = p.Start := rfl
  have hfl : (fitP p 2 most).Flags = 0 := i.flags
  have hpi : (fitP p 2 most).Int_ = p.Int_ := rfl
  have oq : OkH (fitP p 2 most).Hist := i.goodH.ok
  generalize fitP p 2 most = q at *
  have ef := own_fresh kq
  unfold stC
  cases hm : s.Some
  · rw [bifT (by rfl), if_pos rfl]
    dsimp only
    rw [ansP_eq 1 kq ef]; rfl
  rw [bifF (by rfl), if_neg (by simp)]
  by_cases h3 : s.Time < q.Start
  · rw [bifTd h3, if_pos h3]
    dsimp only
    rw [ansP_eq 8 kq ef]; rfl
  rw [bifFd h3, if_neg h3]
  obtain ⟨t, b, r1, r2⟩ := rsum_eq most kq hs (by rw [hpi]; exact hp) oh oq (by rw [hk]; exact own) hm
  rw [r1, bind_some]
  dsimp only
  rcases r2 with ⟨r2, rfl⟩ | ⟨r2, rfl⟩
  · rw [r2, bifF (by rfl)]
    dsimp only
    rw [ansP_eq 0 kq (own_sum kq (by rw [hk]; exact own) r2), hfl, (sumC_ok oh oq r2).2.2.1]
  · rw [r2, bifT (by rfl)]
    dsimp only
    rw [ansP_eq 16 kq ef]; rfl
end Go.Lg
namespace Go.Lg
attribute [local irreducible] w64 toU64 toU8 shlU shrU shlB shrB
theorem H0_ok : OkH H0 := H0_good.ok
theorem fitP_same {p : api_Point} {temp most : Int} (h1 : chkE p = 0) (h2 : p.Temp = temp) (h3 : p.Flags = 0) (h4 : p.Kind ≠ 4) : fitH p temp most = (p.Hist, 0) ∧ fitP p temp most = p := by
  have e := fitH_kind (most := most) h1 h2 h3
  rw [if_neg h4] at e
  exact ⟨e, by unfold fitP; rw [e]⟩
def aw (st ti i : Int) : api_Point := ⟨[120], [], 1, 2, false, st, ti, i, 0, 0, H0, 0⟩
theorem aw_label : labelE [120] [] = 0 := by decide
theorem aw_chk {st ti i : Int} (h : 0 ≤ st) (h' : st < ti) (h2 : ti ≤ 1000) : chkE (aw st ti i) = 0 := by
  refine chk_of aw_label ?_ (fun e => by cases e) ?_ ?_ (fun e => by cases e) (fun e => by cases e) (fun e => by cases e)
  · unfold KindP aw; dsimp only; omega
  · unfold TimeP aw; dsimp only; omega
  · unfold OwnP aw; dsimp only; exact ⟨.inl rfl, .inr rfl, .inr rfl, .inr rfl, by omega⟩
theorem aw_next {s : api_State} {st ti i : Int} (h : 0 ≤ st) (h' : st < ti) (h2 : ti ≤ 1000) (hi : I64 i) (hs : I64 s.Int_) (hh : OkH s.Hist) (h3 : s.Some = true → s.Time < ti ∧ s.Time ≤ st) :
    tocum_Next s (aw st ti i) 10 = some ((stC s (aw st ti i) 10).1, ansP (stC s (aw st ti i) 10).1 (aw st ti i) (stC s (aw st ti i) 10).2, 0) := by
  have hc := aw_chk (i := i) h h' h2
  obtain ⟨f1, f2⟩ := fitP_same (temp := 2) (most := 10) hc rfl rfl (show (1 : Int) ≠ 4 by decide)
  rw [tocumNext_eq 10 hs hi (show ([] : List api_Pair).length ≤ 1000 by decide) hh H0_ok]
  unfold nextC
  rw [f1, f2, if_neg (fun e => e rfl), if_neg (fun e => by have := h3 e.1; have : ti ≤ s.Time := e.2; omega), if_neg (fun e => by have := h3 e.1; have : st < s.Time := e.2; omega)]
theorem awake16 : law16_awake = some true := by
  have a1 := aw_next (s := S0) (st := 0) (ti := 10) (i := 5) (by omega) (by omega) (by omega) (by unfold I64; omega) (by unfold I64 S0; decide) H0_ok (fun e => by cases e)
  have s1 : stC S0 (aw 0 10 5) 10 = (⟨true, 0, 10, 5, 0, 0, H0⟩, 1) := by unfold stC; rw [if_pos (show S0.Some = false from rfl)]; rfl
  rw [s1] at a1
  have a2 := aw_next (s := ⟨true, 0, 10, 5, 0, 0, H0⟩) (st := 10) (ti := 20) (i := 3) (by omega) (by omega) (by omega) (by unfold I64; omega) (by unfold I64; decide) H0_ok (fun _ => by dsimp only; omega)
  have s2 : stC ⟨true, 0, 10, 5, 0, 0, H0⟩ (aw 10 20 3) 10 = (⟨true, 0, 20, 8, 0, 0, H0⟩, 0) := by
    have : sumC ⟨true, 0, 10, 5, 0, 0, H0⟩ (aw 10 20 3) 10 = some ⟨true, 0, 20, 8, 0, 0, H0⟩ := by
      unfold sumC; rw [if_pos (show (aw 10 20 3).Kind = 1 from rfl)]; exact if_pos (show I64 ((5 : Int) + 3) by unfold I64; decide)
    unfold stC
    rw [if_neg (by decide), if_neg (by decide), this]
  rw [s2] at a2
  have a3 := aw_next (s := ⟨true, 0, 20, 8, 0, 0, H0⟩) (st := 25) (ti := 30) (i := 2) (by omega) (by omega) (by omega) (by unfold I64; omega) (by unfold I64; decide) H0_ok (fun _ => by dsimp only; omega)
  have s3 : stC ⟨true, 0, 20, 8, 0, 0, H0⟩ (aw 25 30 2) 10 = (⟨true, 25, 30, 2, 0, 0, H0⟩, 8) := by
    unfold stC; rw [if_neg (by decide), if_pos (by decide)]; rfl
  rw [s3] at a3
  have b1 : tocum_Next (api_State.mk false 0 0 0 0 0 (api_Hist.mk 0 0 (api_Side.mk 0 []) (api_Side.mk 0 []))) (api_Point.mk [120] [] 1 2 false 0 10 5 0 0 (api_Hist.mk 0 0 (api_Side.mk 0 []) (api_Side.mk 0 [])) 0) 10 = _ := a1
  have b2 : tocum_Next ⟨true, 0, 10, 5, 0, 0, H0⟩ (api_Point.mk [120] [] 1 2 false 10 20 3 0 0 (api_Hist.mk 0 0 (api_Side.mk 0 []) (api_Side.mk 0 [])) 0) 10 = _ := a2
  have b3 : tocum_Next ⟨true, 0, 20, 8, 0, 0, H0⟩ (api_Point.mk [120] [] 1 2 false 25 30 2 0 0 (api_Hist.mk 0 0 (api_Side.mk 0 []) (api_Side.mk 0 [])) 0) 10 = _ := a3
  unfold law16_awake
  rw [b1, bind_some]
  dsimp only
  rw [b2, bind_some]
  dsimp only
  rw [b3, bind_some]
  rfl
theorem nextC_ok {s : api_State} {p : api_Point} (most : Int) (ha : p.Attrs.length ≤ 100) (oh : OkH s.Hist) : OkH (nextC s p most).1.Hist ∧ OkH (nextC s p most).2.1.Hist ∧ (nextC s p most).2.1.Attrs.length ≤ 100 := by
  unfold nextC
  by_cases h0 : (fitH p 2 most).2 = 0
  case neg => rw [if_pos h0]; exact ⟨H0_ok, H0_ok, by simp [Pt0]⟩
  rw [if_neg (fun e => e h0)]
  split
  · exact ⟨H0_ok, H0_ok, by simp [Pt0]⟩
  split
  · exact ⟨H0_ok, H0_ok, by simp [Pt0]⟩
  have i := fitH_in h0
  have o := stC_ok (s := s) (q := fitP p 2 most) most oh i.goodH.ok
  refine ⟨o, ?_, ?_⟩
  · unfold ansP
    split
    · exact H0_ok
    split
    · exact H0_ok
    split
    · exact H0_ok
    · exact o
  · unfold ansP
    split
    · exact ha
    split
    · exact ha
    split
    · exact ha
    · exact ha
theorem tocumNext (s : api_State) (p : api_Point) (most : Int) (is : IsS s) (ip : IsP p) : law16_TocumNext s p most = some true := by
  unfold law16_TocumNext
  rw [awake16, bind_some, bifF (by rfl), rlightP_eq, bind_some]
  cases hl : lightP p
  · rw [bifT (by rfl), bind_some, bifT rfl, bind_some, bifT rfl]
  have li := lightP_of hl
  rw [bifF (by rfl), light_eq, bind_some, bind_some]
  cases hs : (decide ((s.Hist.Pos.Counts.length : Int) ≤ 300) && decide ((s.Hist.Neg.Counts.length : Int) ≤ 300))
  · rw [bifT (by rfl), bind_some, bifT rfl]
  simp only [Bool.and_eq_true, decide_eq_true_eq] at hs
  have oh := is.h.ok hs.1 hs.2
  have op := li.ok ip
  obtain ⟨b, o1, o2⟩ := own16_eq p.Kind oh
  rw [bifF (by rfl), o1, bind_some, bind_some]
  cases b
  · rw [bifT (by rfl)]
  have own := o2 rfl
  have na := li.la
  obtain ⟨k1, k2, k3⟩ := nextC_ok (p := p) most (by omega) oh
  rw [bifF (by rfl), tocumNext_eq most is.i ip.i (by omega) oh op, bind_some]
  dsimp only
  rw [refNext_eq most is.i ip.i oh op own, bind_some]
  dsimp only
  rw [sameS_self k1.pl k1.nl, bind_some, bifT rfl, sameP_self k3 k2.pl k2.nl, bind_some, bind_some, lett_eq]
  simp
end Go.Lg
