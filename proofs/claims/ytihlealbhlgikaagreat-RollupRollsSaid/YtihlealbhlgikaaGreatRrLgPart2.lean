/- Lemmas about the given model and about plain data, which the rows stand on: no statement of the program by itself. -/
import Derived.Test.YtihlealbhlgikaaGreatRrLgPart1
import Derived.Test.YtihlealbhlgikaaGreatRrLgPart0
set_option linter.unusedVariables false
namespace Go.Lg
attribute [local irreducible] w64 toU64 toU8 shlU shrU shlB shrB
theorem sameSide_eq {a b : api_Side} (hl : a.Counts.length ≤ 1000000) : ref08_SameSide a b = some (decide (a = b)) := by
  by_cases h : a = b
  · subst h; rw [sameSide_self hl, decide_eq_true rfl]
  · rw [decide_eq_false h]
    unfold ref08_SameSide
    by_cases h1 : a.Offset = b.Offset ∧ a.Counts.length = b.Counts.length
    · have hs : ∀ i : Nat, i < a.Counts.length → ref08_SameSide_lp1 a b (i : Int) = some (rndE i (if a.Counts.getD i 0 = b.Counts.getD i 0 then none else some false)) := by
        intro i hi
        unfold ref08_SameSide_lp1
        rw [bifTd (by omega), idx_nat hi, bind_some, idx_nat (by omega), bind_some, getD_lt hi, getD_lt (show i < b.Counts.length by omega)]
        by_cases hc : a.Counts[i] = b.Counts[i]'(by omega)
        · rw [bifF (by rw [decide_eq_true hc]; rfl), if_pos hc, lett_eq, w64_succ (by omega)]; rfl
        · rw [bifT (by rw [decide_eq_false hc]; rfl), if_neg hc]; rfl
      rw [bifF (by rw [decide_eq_true h1.1, decide_eq_true (by omega)]; rfl), scan0 (n := a.Counts.length) _ hs (by unfold ref08_SameSide_lp1; rw [bifFd (by omega)]), flow_E]
      rcases firstE_const (r := false) (e := fun i => if a.Counts.getD i 0 = b.Counts.getD i 0 then none else some false) (fun i => by
        by_cases hc : a.Counts.getD i 0 = b.Counts.getD i 0
        · exact .inl (if_pos hc)
        · exact .inr (if_neg hc)) a.Counts.length 0 with hn | hn
      · refine absurd ?_ h
        have hc : a.Counts = b.Counts := by
          refine List.ext_getElem h1.2 fun i hi hi' => ?_
          have := (firstE_none _ _).1 hn i (by omega) (by omega)
          rw [getD_lt hi, getD_lt hi'] at this
          by_cases hc : a.Counts[i] = b.Counts[i]
          · exact hc
          · rw [if_neg hc] at this; cases this
        cases a; cases b; simp_all
      · rw [hn]; rfl
    · rw [bifT]
      rw [Bool.or_eq_true, Bool.not_eq_true', Bool.not_eq_true', decide_eq_false_iff_not, decide_eq_false_iff_not]
      by_cases h2 : a.Offset = b.Offset
      · exact .inr fun h3 => h1 ⟨h2, by omega⟩
      · exact .inl h2
theorem sameH_eq {a b : api_Hist} (hp : a.Pos.Counts.length ≤ 1000000) (hn : a.Neg.Counts.length ≤ 1000000) : ref08_Same a b = some (decide (a = b)) := by
  unfold ref08_Same
  rw [sameSide_eq hp, sameSide_eq hn, bind_some, bind_some]
  by_cases h1 : a.Scale = b.Scale ∧ a.Zero = b.Zero
  · rw [bifT (by rw [decide_eq_true h1.1, decide_eq_true h1.2]; rfl), bind_some]
    by_cases h2 : a.Pos = b.Pos
    · rw [decide_eq_true h2, cond_true, bind_some]
      congr 1
      rw [decide_eq_decide]
      cases a; cases b; simp_all
    · rw [decide_eq_false h2, cond_false, bind_some, decide_eq_false]
      rintro rfl; exact h2 rfl
  · rw [bifF, bind_some, cond_false, bind_some, decide_eq_false]
    · rintro rfl; exact h1 ⟨rfl, rfl⟩
    · rw [Bool.and_eq_false_iff, decide_eq_false_iff_not, decide_eq_false_iff_not]
      by_cases h2 : a.Scale = b.Scale
      · exact .inr fun h3 => h1 ⟨h2, h3⟩
      · exact .inl h2
theorem bare_eq {h : api_Hist} (hp : h.Pos.Counts.length ≤ 1000000) (hn : h.Neg.Counts.length ≤ 1000000) : point_bare h = some (decide (h = H0)) := by
  unfold point_bare
  rw [lett_eq, w64_id (by omega) (by omega)]
  congr 1
  rw [Bool.eq_iff_iff]
  simp only [Bool.and_eq_true, decide_eq_true_eq]
  constructor
  · rintro ⟨⟨⟨⟨h1, h2⟩, h3⟩, h4⟩, h5⟩
    obtain ⟨sc, z, ⟨po, pc⟩, ⟨no, nc⟩⟩ := h
    dsimp only at *
    have e1 : pc = [] := List.eq_nil_of_length_eq_zero (by omega)
    have e2 : nc = [] := List.eq_nil_of_length_eq_zero (by omega)
    subst h1 h2 h3 h4 e1 e2; rfl
  · rintro rfl; exact ⟨⟨⟨⟨rfl, rfl⟩, rfl⟩, rfl⟩, rfl⟩
theorem none_eq {h : api_Hist} (hp : h.Pos.Counts.length ≤ 1000000) (hn : h.Neg.Counts.length ≤ 1000000) : ref12_none h = some (decide (h = H0)) := by
  unfold ref12_none
  have := sameH_eq (a := h) (b := H0) hp hn
  have this' : ref08_Same h ⟨0, 0, ⟨0, []⟩, ⟨0, []⟩⟩ = _ := this
  rw [this', bind_some]
/-- sorted: some list as long -/
theorem sorted_lp2 (a0 out : List api_Pair) (i : Nat) (hi : i < a0.length) : ∀ k : Nat, k ≤ out.length → k ≤ 1000 → ∃ j : Nat, j ≤ out.length ∧ loop (ref11_Sorted_lp2 a0 out (i : Int)) (k : Int) = some (.go (j : Int))
  | 0, h, _ => ⟨0, by omega, loop_brk (by unfold ref11_Sorted_lp2; rw [bifFd (by omega), bind_some, cond_false])⟩
  | k + 1, h, hk => by
    have h1 : w64 (((k + 1 : Nat) : Int) - 1) = (k : Int) := by rw [w64_id] <;> omega
    have hk2 : k < out.length := by omega
    cases hc : sLess a0[i].Key out[k].Key with
    | true =>
      obtain ⟨j, j1, j2⟩ := sorted_lp2 a0 out i hi k (by omega) (by omega)
      refine ⟨j, j1, ?_⟩
      rw [← j2]
      refine loop_next ?_
      unfold ref11_Sorted_lp2
      rw [bifTd (by omega), h1, idx_nat hk2, bind_some, idx_nat hi, bind_some, bind_some, hc, cond_true, lett_eq]
    | false =>
      refine ⟨k + 1, h, loop_brk ?_⟩
      unfold ref11_Sorted_lp2
      rw [bifTd (by omega), h1, idx_nat hk2, bind_some, idx_nat hi, bind_some, bind_some, hc, cond_false]
theorem sorted_lp1 (a0 : List api_Pair) (hl : a0.length ≤ 100) : ∀ (m i : Nat) (out : List api_Pair), i + m = a0.length → out.length = i → ∃ s, loop (ref11_Sorted_lp1 a0) (out, (i : Int)) = some (.go s) ∧ s.length = a0.length
  | 0, i, out, h, ho => ⟨out, loop_brk (by unfold ref11_Sorted_lp1; dsimp only; rw [bifFd (by omega)]), by omega⟩
  | m + 1, i, out, h, ho => by
    have hi : i < a0.length := by omega
    obtain ⟨j, j1, j2⟩ := sorted_lp2 a0 out i hi out.length (Nat.le_refl _) (by omega)
    obtain ⟨s, s1, s2⟩ := sorted_lp1 a0 hl m (i + 1) (out.take j ++ [a0[i]] ++ out.drop j) (by omega) (by simp only [List.length_append, List.length_take, List.length_drop, List.length_cons, List.length_nil]; omega)
    refine ⟨s, ?_, s2⟩
    rw [← s1]
    refine loop_next ?_
    unfold ref11_Sorted_lp1
    dsimp only
    have hsl : slc out 0 (j : Int) = some (out.take j) := by rw [show (0 : Int) = ((0 : Nat) : Int) from rfl, slc_nat (by omega) j1, List.drop_zero]
    have hs2 : slc out (j : Int) (out.length : Int) = some (out.drop j) := by rw [slc_nat j1 (Nat.le_refl _), List.take_length]
    rw [bifTd (by omega), lett_eq, j2, flow_go, bind_some, hsl, bind_some, app_ok (by simp only [List.length_nil, List.length_take]; omega), bind_some, List.nil_append, idx_nat hi, bind_some, app_ok (by simp only [List.length_take, List.length_cons, List.length_nil]; omega), bind_some, hs2, bind_some,
      app_ok (by simp only [List.length_append, List.length_take, List.length_drop, List.length_cons, List.length_nil]; omega), bind_some, lett_eq, w64_succ (by omega)]
theorem sorted_some (a0 : List api_Pair) (hl : a0.length ≤ 100) : ∃ s, ref11_Sorted a0 = some s ∧ s.length = a0.length := by
  obtain ⟨s, s1, s2⟩ := sorted_lp1 a0 hl a0.length 0 [] (by omega) rfl
  have s1' : loop (ref11_Sorted_lp1 a0) ([], 0) = _ := s1
  refine ⟨s, ?_, s2⟩
  unfold ref11_Sorted
  rw [s1', flow_go]
theorem samePairs_self (l : List api_Pair) (hl : l.length ≤ 1000) : ref11_Same l l = some true := by
  unfold ref11_Same
  rw [bifF (by simp), scan0 (n := l.length) (fun _ => none) (fun i hi => by
    unfold ref11_Same_lp1
    rw [bifTd (by omega), idx_nat hi, bind_some, bind_some, bifF (by simp), lett_eq, w64_succ (by omega)]; rfl) (by unfold ref11_Same_lp1; rw [bifFd (by omega)]), flow_E,
    (firstE_none _ _).2 (fun _ _ _ => rfl)]; rfl
theorem sameP_self {p : api_Point} (ha : p.Attrs.length ≤ 100) (hp : p.Hist.Pos.Counts.length ≤ 1000000) (hn : p.Hist.Neg.Counts.length ≤ 1000000) : ref12_Same p p = some true := by
  obtain ⟨s, s1, s2⟩ := sorted_some p.Attrs ha
  unfold ref12_Same
  rw [bifF (by simp), s1, bind_some, bind_some, samePairs_self s (by omega), bind_some, bind_some, bifF (by rfl), bifF (by simp), bifT (by simp), same_self hp hn, bind_some, bind_some]
end Go.Lg
namespace Go.Lg
attribute [local irreducible] w64 toU64 toU8 shlU shrU shlB shrB
abbrev KindP (p : api_Point) : Prop := (p.Kind = 3 ∧ p.Temp = 0) ∨ ((p.Kind = 1 ∨ p.Kind = 2 ∨ p.Kind = 4 ∨ p.Kind = 5) ∧ (p.Temp = 1 ∨ p.Temp = 2))
abbrev TimeP (p : api_Point) : Prop := (0 ≤ p.Start ∧ p.Time ≤ 4503599627370496) ∧ ((p.Kind = 3 ∧ p.Start = p.Time) ∨ (p.Kind ≠ 3 ∧ p.Start < p.Time))
abbrev OwnP (p : api_Point) : Prop := (p.Kind = 1 ∨ p.Int_ = 0) ∧ ((p.Kind = 2 ∨ p.Kind = 3 ∨ p.Kind = 5) ∨ p.Re = 0) ∧ (p.Kind = 5 ∨ p.Im = 0) ∧ (p.Kind = 4 ∨ p.Hist = H0) ∧ (0 ≤ p.Flags ∧ p.Flags ≤ 31)
def finB (a : UInt64) : Bool := decide (fE a.toNat ≠ 2047)
/-- what is wrong with a point first -/
def chkE (p : api_Point) : Int :=
  if labelE p.Name p.Attrs ≠ 0 then labelE p.Name p.Attrs
  else if ¬ KindP p then 14
  else if (p.Mono = true ∧ ¬ (p.Kind = 1 ∨ p.Kind = 2)) ∨ ¬ TimeP p then 1
  else if ¬ OwnP p then 3
  else if (p.Mono = true ∧ p.Kind = 2) ∧ finB p.Re = false then 11
  else if p.Mono = true ∧ (p.Int_ < 0 ∨ fLess p.Re 0 = true) then 1
  else if p.Kind = 4 then histE p.Hist else 0
structure OkP (p : api_Point) : Prop where
  h : OkH p.Hist
theorem kinds_eq (p : api_Point) : point_kinds p = some (decide (KindP p)) := by
  unfold point_kinds KindP
  simp only [lett_eq]
  by_cases h3 : p.Kind = 3
  · simp [h3]
  · by_cases h1 : p.Kind = 1
    · simp [h1]
    · by_cases h2 : p.Kind = 2
      · simp [h2]
      · by_cases h4 : p.Kind = 4
        · simp [h4]
        · by_cases h5 : p.Kind = 5
          · simp [h5]
          · simp [h1, h2, h3, h4, h5]
theorem times_eq (p : api_Point) : point_times p = some (decide (TimeP p)) := by
  unfold point_times TimeP
  simp only [lett_eq]
  by_cases h : p.Start < 0 ∨ 4503599627370496 < p.Time
  · rw [bifT (by simpa using h), decide_eq_false (by omega)]
  · rw [bifF (by simpa using h)]
    by_cases h3 : p.Kind = 3
    · rw [bifTd h3]; congr 1; rw [decide_eq_decide]; omega
    · rw [bifFd h3]; congr 1; rw [decide_eq_decide]; omega
theorem own_eq {p : api_Point} (o : OkH p.Hist) : point_own p = some (decide (OwnP p)) := by
  unfold point_own OwnP
  simp only [lett_eq]
  rw [bare_eq o.pl o.nl, bind_some]
  by_cases h1 : p.Kind = 1 ∨ p.Int_ = 0
  · rw [bifF (by rcases h1 with h | h <;> simp [h])]
    by_cases h2 : (p.Kind = 2 ∨ p.Kind = 3 ∨ p.Kind = 5) ∨ p.Re = 0
    · rw [bifF (by rcases h2 with (h | h | h) | h <;> simp [h])]
      by_cases h3 : p.Kind = 5 ∨ p.Im = 0
      · rw [bifF (by rcases h3 with h | h <;> simp [h])]
        by_cases h4 : p.Kind = 4 ∨ p.Hist = H0
        · have e : (bif (!decide (p.Kind = 4)) then some (!decide (p.Hist = H0)) else some false : Option Bool) = some false := by
            rcases h4 with h | h
            · rw [bifF (by rw [decide_eq_true h]; rfl)]
            · rw [decide_eq_true h]; cases (!decide (p.Kind = 4)) <;> rfl
          rw [e, bind_some, cond_false]
          by_cases h5 : p.Flags < 0 ∨ 31 < p.Flags
          · rw [bifT (by simpa using h5), decide_eq_false (by omega)]
          · rw [bifF (by simpa using h5), decide_eq_true]; exact ⟨h1, h2, h3, h4, by omega⟩
        · have e : (bif (!decide (p.Kind = 4)) then some (!decide (p.Hist = H0)) else some false : Option Bool) = some true := by
            rw [bifT (by rw [decide_eq_false (fun h => h4 (.inl h))]; rfl), decide_eq_false (fun h => h4 (.inr h))]; rfl
          rw [e, bind_some, cond_true, cond_true, decide_eq_false (fun h => h4 h.2.2.2.1)]
      · have e : ((!decide (p.Kind = 5)) && (!decide (p.Im = 0))) = true := by rw [decide_eq_false (fun h => h3 (.inl h)), decide_eq_false (fun h => h3 (.inr h))]; rfl
        rw [e, cond_true, cond_true, decide_eq_false (fun h => h3 h.2.2.1)]
    · have e : ((!(((decide (p.Kind = 2)) || (decide (p.Kind = 3))) || (decide (p.Kind = 5)))) && (!decide (p.Re = 0))) = true := by
        rw [decide_eq_false (fun h => h2 (.inl (.inl h))), decide_eq_false (fun h => h2 (.inl (.inr (.inl h)))), decide_eq_false (fun h => h2 (.inl (.inr (.inr h)))), decide_eq_false (fun h => h2 (.inr h))]; rfl
      rw [e, cond_true, cond_true, decide_eq_false (fun h => h2 h.2.1)]
  · have e : ((!decide (p.Kind = 1)) && (!decide (p.Int_ = 0))) = true := by rw [decide_eq_false (fun h => h1 (.inl h)), decide_eq_false (fun h => h1 (.inr h))]; rfl
    rw [e, cond_true, cond_true, decide_eq_false (fun h => h1 h.1)]
theorem less_00 : fLess 0 0 = false := by decide +kernel
theorem chk_eq {p : api_Point} (o : OkH p.Hist) : point_Check p = some (chkE p) := by
  unfold point_Check chkE
  rw [label_eq, bind_some]
  by_cases h1 : labelE p.Name p.Attrs = 0
  · rw [bifF (by rw [decide_eq_true h1]; rfl), if_neg (by simpa using h1), kinds_eq, bind_some, lett_eq]
    by_cases h2 : KindP p
    · rw [bifF (by rw [decide_eq_true h2]; rfl), if_neg (fun h => h h2)]
      have e1 : (((bif p.Mono then (point_sum p).bind fun r78 => some (!r78) else some false : Option Bool).bind fun x68 =>
 bif x68 then
 some x68
 else
 (point_times p).bind fun r95 =>
 lett ((!r95)) fun t104 =>
 some t104) : Option Bool) = some (decide ((p.Mono = true ∧ ¬ (p.Kind = 1 ∨ p.Kind = 2)) ∨ ¬ TimeP p)) := by
        unfold point_sum
        rw [times_eq, bind_some, lett_eq, lett_eq, bind_some]
        have fin : (!decide (TimeP p)) = decide ((p.Mono = true ∧ ¬ (p.Kind = 1 ∨ p.Kind = 2)) ∨ ¬ TimeP p) ∨ (p.Mono = true ∧ ¬ (p.Kind = 1 ∨ p.Kind = 2)) := by
          by_cases hb : p.Mono = true ∧ ¬ (p.Kind = 1 ∨ p.Kind = 2)
          · exact .inr hb
          · refine .inl ?_
            by_cases hT : TimeP p
            · rw [decide_eq_true hT, decide_eq_false (fun h => h.elim hb (fun h => h hT))]; rfl
            · rw [decide_eq_false hT, decide_eq_true (.inr hT)]; rfl
        rcases fin with hf | hf
        · rw [← hf]
          cases hm : p.Mono with
          | false => rfl
          | true =>
            rw [cond_true, bind_some]
            by_cases hk : p.Kind = 1 ∨ p.Kind = 2
            · rw [bifF (by rcases hk with h | h <;> simp [h])]
            · rw [hf, decide_eq_true (p := (p.Mono = true ∧ ¬ (p.Kind = 1 ∨ p.Kind = 2)) ∨ ¬ TimeP p) (.inl ⟨hm, hk⟩), decide_eq_false (p := p.Kind = 1) (fun h => hk (.inl h)), decide_eq_false (p := p.Kind = 2) (fun h => hk (.inr h))]; rfl
        · rw [decide_eq_true (p := (p.Mono = true ∧ ¬ (p.Kind = 1 ∨ p.Kind = 2)) ∨ ¬ TimeP p) (.inl hf), hf.1, cond_true, bind_some, decide_eq_false (p := p.Kind = 1) (fun h => hf.2 (.inl h)), decide_eq_false (p := p.Kind = 2) (fun h => hf.2 (.inr h))]; rfl
      rw [e1, bind_some]
      by_cases h3 : (p.Mono = true ∧ ¬ (p.Kind = 1 ∨ p.Kind = 2)) ∨ ¬ TimeP p
      · rw [bifTd h3, if_pos h3]
      · rw [bifFd h3, if_neg h3, own_eq o, bind_some, lett_eq]
        by_cases h4 : OwnP p
        · rw [bifF (by rw [decide_eq_true h4]; rfl), if_neg (fun h => h h4), numFinite_eq, bind_some]
          have e2 : (bif (p.Mono && (decide (p.Kind = 2))) then some (!decide (fE p.Re.toNat ≠ 2047)) else some false : Option Bool) = some (decide ((p.Mono = true ∧ p.Kind = 2) ∧ finB p.Re = false)) := by
            unfold finB
            cases p.Mono <;> by_cases hk : p.Kind = 2 <;> by_cases hf : fE p.Re.toNat = 2047 <;> simp [hk, hf]
          rw [e2, bind_some]
          by_cases h5 : (p.Mono = true ∧ p.Kind = 2) ∧ finB p.Re = false
          · rw [bifTd h5, if_pos h5]
          · rw [bifFd h5, if_neg h5]
            unfold num_Less
            have e3 : (bif p.Mono then (bif decide (p.Int_ < 0) then some true else (some (fLess p.Re 0)).bind fun r162 => some r162 : Option Bool).bind fun x155 => some x155 else some false : Option Bool) = some (decide (p.Mono = true ∧ (p.Int_ < 0 ∨ fLess p.Re 0 = true))) := by
              cases p.Mono <;> by_cases hk : p.Int_ < 0 <;> cases fLess p.Re 0 <;> simp [hk]
            rw [e3, bind_some]
            by_cases h6 : p.Mono = true ∧ (p.Int_ < 0 ∨ fLess p.Re 0 = true)
            · rw [bifTd h6, if_pos h6]
            · rw [bifFd h6, if_neg h6, lett_eq]
              by_cases h7 : p.Kind = 4
              · rw [bifTd h7, if_pos h7, Check_eq o, bind_some]
              · rw [bifFd h7, if_neg h7]
        · rw [bifT (by rw [decide_eq_false h4]; rfl), if_pos h4]
    · rw [bifT (by rw [decide_eq_false h2]; rfl), if_pos h2]
  · rw [bifT (by rw [decide_eq_false h1]; rfl), if_pos h1]
theorem rchk_eq {p : api_Point} (o : OkH p.Hist) : ref12_Check p = some (chkE p) := by
  unfold ref12_Check chkE
  rw [rlabel_eq, bind_some]
  by_cases h1 : labelE p.Name p.Attrs = 0
  · rw [bifF (by rw [decide_eq_true h1]; rfl), if_neg (by simpa using h1)]
    by_cases h2 : KindP p
    · have hk := h2
      unfold KindP at hk
      rw [if_neg (fun h => h h2), bifF (by rw [Bool.or_eq_false_iff, decide_eq_false_iff_not, decide_eq_false_iff_not]; omega), bifF (by
        rcases hk with ⟨k1, k2⟩ | ⟨k1, k2⟩
        · simp [k1, k2]
        · have : p.Kind ≠ 3 := by omega
          rcases k2 with k2 | k2 <;> simp [this, k2])]
      by_cases h3 : p.Mono = true ∧ ¬ (p.Kind = 1 ∨ p.Kind = 2)
      · rw [if_pos (.inl h3), bifT (by
          rw [h3.1, decide_eq_false (fun h => h3.2 (.inl h)), decide_eq_false (fun h => h3.2 (.inr h))]; rfl)]
      · rw [bifF (by
          cases hm : p.Mono with
          | false => rfl
          | true =>
            by_cases hh : p.Kind = 1 ∨ p.Kind = 2
            · rcases hh with h | h <;> simp [h]
            · exact absurd ⟨hm, hh⟩ h3)]
        by_cases h4 : TimeP p
        · rw [if_neg (fun h => h.elim h3 (fun h => h h4)), bifF (by
            unfold TimeP at h4
            simp only [Bool.or_eq_false_iff, Bool.and_eq_false_iff, decide_eq_false_iff_not, Bool.not_eq_false', decide_eq_true_eq]
            omega)]
          rw [none_eq o.pl o.nl, bind_some]
          have e1 : (bif (((!decide (p.Kind = 1)) && (!decide (p.Int_ = 0))) || ((!decide (p.Kind = 5)) && (!decide (p.Im = 0)))) then
 some true
 else
 (bif (!decide (p.Kind = 4)) then
 some (!decide (p.Hist = H0))
 else
 some false : Option Bool).bind fun x74 =>
 some x74 : Option Bool) = some (decide (¬ ((p.Kind = 1 ∨ p.Int_ = 0) ∧ (p.Kind = 5 ∨ p.Im = 0) ∧ (p.Kind = 4 ∨ p.Hist = H0)))) := by
            by_cases k1 : p.Kind = 1 <;> by_cases k2 : p.Int_ = 0 <;> by_cases k3 : p.Kind = 5 <;> by_cases k4 : p.Im = 0 <;> by_cases k5 : p.Kind = 4 <;> by_cases k6 : p.Hist = H0 <;> simp [k1, k2, k3, k4, k5, k6]
          rw [e1, bind_some]
          by_cases h5 : OwnP p
          · have h5' := h5
            unfold OwnP at h5'
            rw [if_neg (fun h => h h5), bifFd (fun h => h ⟨h5'.1, h5'.2.2.1, h5'.2.2.2.1⟩), bifF (by
              simp only [Bool.or_eq_false_iff, Bool.and_eq_false_iff, decide_eq_false_iff_not, Bool.not_eq_false', decide_eq_true_eq]
              refine ⟨⟨?_, by omega⟩, by omega⟩
              rcases h5'.2.1 with h | h
              · exact .inl (by omega)
              · exact .inr h), RFin_eq, bind_some]
            have e2 : (bif (p.Mono && (decide (p.Kind = 2))) then some (!decide (fE p.Re.toNat ≠ 2047)) else some false : Option Bool) = some (decide ((p.Mono = true ∧ p.Kind = 2) ∧ finB p.Re = false)) := by
              unfold finB
              cases p.Mono <;> by_cases hk : p.Kind = 2 <;> by_cases hf : fE p.Re.toNat = 2047 <;> simp [hk, hf]
            rw [e2, bind_some]
            by_cases h6 : (p.Mono = true ∧ p.Kind = 2) ∧ finB p.Re = false
            · rw [bifTd h6, if_pos h6]
            · rw [bifFd h6, if_neg h6, Less_eq, bind_some]
              have e3 : ((bif (p.Mono && (decide (p.Kind = 2))) then some (fLess p.Re 0) else some false : Option Bool)) = some ((p.Mono && decide (p.Kind = 2)) && fLess p.Re 0) := by
                cases (p.Mono && decide (p.Kind = 2)) <;> rfl
              rw [e3, bind_some]
              have e4 : ((((p.Mono && decide (p.Kind = 2)) && fLess p.Re 0)) || ((p.Mono && (decide (p.Kind = 1))) && (decide (p.Int_ < 0)))) = decide (p.Mono = true ∧ (p.Int_ < 0 ∨ fLess p.Re 0 = true)) := by
                cases hm : p.Mono with
                | false => simp
                | true =>
                  have hkk : p.Kind = 1 ∨ p.Kind = 2 := by
                    by_cases hh : p.Kind = 1 ∨ p.Kind = 2
                    · exact hh
                    · exact absurd ⟨hm, hh⟩ h3
                  rcases hkk with hkk | hkk
                  · have hre : p.Re = 0 := by rcases h5'.2.1 with h | h; omega; exact h
                    simp [hkk, hre, less_00]
                  · have hin : p.Int_ = 0 := by rcases h5'.1 with h | h; omega; exact h
                    simp [hkk, hin]
              rw [e4]
              by_cases h7 : p.Mono = true ∧ (p.Int_ < 0 ∨ fLess p.Re 0 = true)
              · rw [bifTd h7, if_pos h7]
              · rw [bifFd h7, if_neg h7]
                by_cases h8 : p.Kind = 4
                · rw [bifTd h8, if_pos h8, RCheck_eq o, bind_some]
                · rw [bifFd h8, if_neg h8]
          · rw [if_pos h5]
            by_cases h6 : (p.Kind = 1 ∨ p.Int_ = 0) ∧ (p.Kind = 5 ∨ p.Im = 0) ∧ (p.Kind = 4 ∨ p.Hist = H0)
            · rw [bifFd (fun h => h h6), bifT]
              unfold OwnP at h5
              simp only [Bool.or_eq_true, Bool.and_eq_true, decide_eq_true_eq, Bool.not_eq_true', decide_eq_false_iff_not]
              by_cases h7 : p.Flags < 0 ∨ 31 < p.Flags
              · rcases h7 with h | h
                · exact .inl (.inr h)
                · exact .inr h
              · refine .inl (.inl ⟨?_, fun hre => h5 ⟨h6.1, .inr hre, h6.2.1, h6.2.2, by omega⟩⟩)
                by_cases h8 : p.Kind = 2 ∨ p.Kind = 3 ∨ p.Kind = 5
                · exact absurd ⟨h6.1, .inl h8, h6.2.1, h6.2.2, by omega⟩ h5
                · omega
            · rw [bifTd h6]
        · rw [if_pos (.inr h4), bifT]
          unfold TimeP at h4
          simp only [Bool.or_eq_true, Bool.and_eq_true, decide_eq_true_eq, Bool.not_eq_true', decide_eq_false_iff_not]
          omega
    · rw [if_pos h2]
      unfold KindP at h2
      by_cases h3 : p.Kind < 1 ∨ 5 < p.Kind
      · rw [bifT (by simpa using h3)]
      · rw [bifF (by simpa using h3), bifT]
        simp only [Bool.or_eq_true, Bool.and_eq_true, decide_eq_true_eq, Bool.not_eq_true', decide_eq_false_iff_not]
        omega
  · rw [bifT (by rw [decide_eq_false h1]; rfl), if_pos h1]
end Go.Lg
namespace Go.Lg
attribute [local irreducible] w64 toU64 toU8 shlU shrU shlB shrB
/-- the sum of both, brought to one scale -/
def Comes (x0 y0 z : api_Hist) : Prop := ∃ (ka kb : Nat) (x y : api_Hist), DnH ka x0 x ∧ DnH kb y0 y ∧ (ka : Int) ≤ x0.Scale + 10 ∧ (kb : Int) ≤ y0.Scale + 10 ∧ x.Scale = y.Scale ∧ z = sumH x y ∧ tot x + tot y < 18446744073709551616 ∧ widthS x.Pos y.Pos ≤ 160 ∧ widthS x.Neg y.Neg ≤ 160
/-- right, and as told -/
def TogOk (x0 y0 : api_Hist) (a2 : Int) (res : api_Hist × Bool) : Prop :=
  res = (H0, false) ∨ ∃ z, res = (z, true) ∧ Good z ∧ tot z = tot x0 + tot y0 ∧ tot x0 + tot y0 < 18446744073709551616 ∧ (z.Pos.Counts.length : Int) ≤ a2 ∧ (z.Neg.Counts.length : Int) ≤ a2 ∧ Comes x0 y0 z
theorem tog_loop {x0 y0 : api_Hist} (gx : Good x0) (gy : Good y0) (hs : x0.Scale = y0.Scale) (a2 : Int) : ∀ (m k : Nat) (x y : api_Hist), ((k + m : Nat) : Int) = x0.Scale + 10 → DnH k x0 x → DnH k y0 y →
    ∃ res, loop (tocum_Together_lp1 a2) (x.Scale, x.Zero, x.Pos.Offset, x.Pos.Counts, x.Neg.Offset, x.Neg.Counts, y.Scale, y.Zero, y.Pos.Offset, y.Pos.Counts, y.Neg.Offset, y.Neg.Counts) = some (.out res) ∧
      ((loop (ref16_Together_lp1 a2 ⟨x0, y0, 0⟩) (x0.Scale - k) = some (.out res)) ∨ (loop (ref16_Together_lp1 a2 ⟨x0, y0, 0⟩) (x0.Scale - k) = some (.go ()) ∧ res = (H0, false))) ∧ TogOk x0 y0 a2 res := by
  intro m
  induction m with
  | zero =>
    intro k x y hk dx dy
    have gxk := dx.good gx (by omega)
    have gyk := dy.good gy (by omega)
    have hsk : x.Scale = y.Scale := by rw [dx.s, dy.s, hs]
    obtain ⟨l1, l2⟩ := lev_same gxk gyk hsk
    have m1 := Merge_lev l1 gxk gyk
    have m2 := RMerge_lev l2 gxk gyk
    obtain ⟨xx, r1, r2⟩ := RDown_ok gx (k := k) (by omega)
    obtain ⟨yy, r3, r4⟩ := RDown_ok gy (k := k) (by omega)
    obtain rfl := r2.inj dx
    obtain rfl := r4.inj dy
    have hw : w64 (x0.Scale - (x0.Scale - (k : Int))) = (k : Int) := by have := gx.s2; rw [w64_id] <;> omega
    have m1' : fold_Merge ⟨xx.Scale, xx.Zero, ⟨xx.Pos.Offset, xx.Pos.Counts⟩, ⟨xx.Neg.Offset, xx.Neg.Counts⟩⟩ ⟨yy.Scale, yy.Zero, ⟨yy.Pos.Offset, yy.Pos.Counts⟩, ⟨yy.Neg.Offset, yy.Neg.Counts⟩⟩ = _ := m1
    by_cases c1 : 18446744073709551616 ≤ tot xx + tot yy
    · have e : mergeE xx yy = (H0, 4) := by unfold mergeE; rw [if_pos c1]
      rw [e] at m1' m2
      refine ⟨(H0, false), loop_out ?_, .inl (loop_out ?_), .inl rfl⟩
      · unfold tocum_Together_lp1
        dsimp only
        rw [m1', bind_some]
        dsimp only
        rw [lett_eq, bifTd rfl]; rfl
      · unfold ref16_Together_lp1
        dsimp only
        rw [bifTd (by omega), hw, r1, bind_some]
        dsimp only
        rw [r3, bind_some]
        dsimp only
        rw [m2, bind_some]
        dsimp only
        rw [bifTd rfl]; rfl
    · by_cases c2 : (¬ (160 < widthS xx.Pos yy.Pos ∨ 160 < widthS xx.Neg yy.Neg)) ∧ ((sumH xx yy).Pos.Counts.length : Int) ≤ a2 ∧ ((sumH xx yy).Neg.Counts.length : Int) ≤ a2
      · have e : mergeE xx yy = (sumH xx yy, 0) := by unfold mergeE; rw [if_neg c1, if_neg c2.1]
        rw [e] at m1' m2
        have ht : tot xx + tot yy = tot x0 + tot y0 := by rw [dx.tot, dy.tot]
        refine ⟨(sumH xx yy, true), loop_out ?_, .inl (loop_out ?_), .inr ⟨_, rfl, sumH_good gxk gyk (by omega) (by omega) (by omega), by rw [sumH_tot gxk gyk (by omega), ht], by omega, c2.2.1, c2.2.2, ⟨k, k, xx, yy, dx, dy, by omega, by omega, hsk, rfl, by omega, by omega, by omega⟩⟩⟩
        · unfold tocum_Together_lp1
          dsimp only
          rw [m1', bind_some]
          dsimp only
          rw [lett_eq, bifFd (by omega), lett_eq, bifT (by rw [decide_eq_true rfl, decide_eq_true (by omega)]; rfl)]; rfl
        · unfold ref16_Together_lp1
          dsimp only
          rw [bifTd (by omega), hw, r1, bind_some]
          dsimp only
          rw [r3, bind_some]
          dsimp only
          rw [m2, bind_some]
          dsimp only
          rw [bifFd (by omega), bifT (by rw [decide_eq_true rfl, decide_eq_true c2.2.1, decide_eq_true c2.2.2]; rfl)]; rfl
      · have e4 : (mergeE xx yy).2 ≠ 4 := by unfold mergeE; rw [if_neg c1]; split <;> simp
        have e5 : ¬ ((mergeE xx yy).2 = 0 ∧ ((mergeE xx yy).1.Pos.Counts.length : Int) ≤ a2 ∧ ((mergeE xx yy).1.Neg.Counts.length : Int) ≤ a2) := by
          unfold mergeE
          rw [if_neg c1]
          by_cases c3 : 160 < widthS xx.Pos yy.Pos ∨ 160 < widthS xx.Neg yy.Neg
          · rw [if_pos c3]; simp
          · rw [if_neg c3]; exact fun h => c2 ⟨c3, h.2⟩
        generalize mergeE xx yy = me at *
        obtain ⟨z, ez⟩ := me
        dsimp only at e4 e5
        refine ⟨(H0, false), loop_out ?_, .inr ⟨?_, rfl⟩, .inl rfl⟩
        · unfold tocum_Together_lp1
          dsimp only
          rw [m1', bind_some]
          dsimp only
          rw [lett_eq, bifFd e4, lett_eq, bifF (by
            rw [Bool.and_eq_false_iff, decide_eq_false_iff_not, decide_eq_false_iff_not]
            by_cases h0 : ez = 0
            · exact .inr (by omega)
            · exact .inl h0), lett_eq, bifTd (by have := dx.s; omega)]; rfl
        · rw [loop_next (s' := x0.Scale - (k : Int) - 1), loop_brk (b := ())]
          · unfold ref16_Together_lp1
            rw [bifFd (by omega)]
          · unfold ref16_Together_lp1
            dsimp only
            rw [bifTd (by omega), hw, r1, bind_some]
            dsimp only
            rw [r3, bind_some]
            dsimp only
            rw [m2, bind_some]
            dsimp only
            rw [bifFd e4, bifF (by
              rw [Bool.and_eq_false_iff, Bool.and_eq_false_iff, decide_eq_false_iff_not, decide_eq_false_iff_not, decide_eq_false_iff_not]
              by_cases h0 : ez = 0
              · by_cases h2 : (z.Pos.Counts.length : Int) ≤ a2
                · exact .inr fun h3 => e5 ⟨h0, h2, h3⟩
                · exact .inl (.inr h2)
              · exact .inl (.inl h0)), lett_eq, show w64 (x0.Scale - (k : Int) - 1) = x0.Scale - (k : Int) - 1 by have := gx.s2; rw [w64_id] <;> omega]
  | succ m ih =>
    intro k x y hk dx dy
    have gxk := dx.good gx (by omega)
    have gyk := dy.good gy (by omega)
    have hsk : x.Scale = y.Scale := by rw [dx.s, dy.s, hs]
    obtain ⟨l1, l2⟩ := lev_same gxk gyk hsk
    have m1 := Merge_lev l1 gxk gyk
    have m2 := RMerge_lev l2 gxk gyk
    obtain ⟨xx, r1, r2⟩ := RDown_ok gx (k := k) (by omega)
    obtain ⟨yy, r3, r4⟩ := RDown_ok gy (k := k) (by omega)
    obtain rfl := r2.inj dx
    obtain rfl := r4.inj dy
    have hw : w64 (x0.Scale - (x0.Scale - (k : Int))) = (k : Int) := by have := gx.s2; rw [w64_id] <;> omega
    have m1' : fold_Merge ⟨xx.Scale, xx.Zero, ⟨xx.Pos.Offset, xx.Pos.Counts⟩, ⟨xx.Neg.Offset, xx.Neg.Counts⟩⟩ ⟨yy.Scale, yy.Zero, ⟨yy.Pos.Offset, yy.Pos.Counts⟩, ⟨yy.Neg.Offset, yy.Neg.Counts⟩⟩ = _ := m1
    by_cases c1 : 18446744073709551616 ≤ tot xx + tot yy
    · have e : mergeE xx yy = (H0, 4) := by unfold mergeE; rw [if_pos c1]
      rw [e] at m1' m2
      refine ⟨(H0, false), loop_out ?_, .inl (loop_out ?_), .inl rfl⟩
      · unfold tocum_Together_lp1
        dsimp only
        rw [m1', bind_some]
        dsimp only
        rw [lett_eq, bifTd rfl]; rfl
      · unfold ref16_Together_lp1
        dsimp only
        rw [bifTd (by omega), hw, r1, bind_some]
        dsimp only
        rw [r3, bind_some]
        dsimp only
        rw [m2, bind_some]
        dsimp only
        rw [bifTd rfl]; rfl
    · by_cases c2 : (¬ (160 < widthS xx.Pos yy.Pos ∨ 160 < widthS xx.Neg yy.Neg)) ∧ ((sumH xx yy).Pos.Counts.length : Int) ≤ a2 ∧ ((sumH xx yy).Neg.Counts.length : Int) ≤ a2
      · have e : mergeE xx yy = (sumH xx yy, 0) := by unfold mergeE; rw [if_neg c1, if_neg c2.1]
        rw [e] at m1' m2
        have ht : tot xx + tot yy = tot x0 + tot y0 := by rw [dx.tot, dy.tot]
        refine ⟨(sumH xx yy, true), loop_out ?_, .inl (loop_out ?_), .inr ⟨_, rfl, sumH_good gxk gyk (by omega) (by omega) (by omega), by rw [sumH_tot gxk gyk (by omega), ht], by omega, c2.2.1, c2.2.2, ⟨k, k, xx, yy, dx, dy, by omega, by omega, hsk, rfl, by omega, by omega, by omega⟩⟩⟩
        · unfold tocum_Together_lp1
          dsimp only
          rw [m1', bind_some]
          dsimp only
          rw [lett_eq, bifFd (by omega), lett_eq, bifT (by rw [decide_eq_true rfl, decide_eq_true (by omega)]; rfl)]; rfl
        · unfold ref16_Together_lp1
          dsimp only
          rw [bifTd (by omega), hw, r1, bind_some]
          dsimp only
          rw [r3, bind_some]
          dsimp only
          rw [m2, bind_some]
          dsimp only
          rw [bifFd (by omega), bifT (by rw [decide_eq_true rfl, decide_eq_true c2.2.1, decide_eq_true c2.2.2]; rfl)]; rfl
      · have e4 : (mergeE xx yy).2 ≠ 4 := by unfold mergeE; rw [if_neg c1]; split <;> simp
        have e5 : ¬ ((mergeE xx yy).2 = 0 ∧ ((mergeE xx yy).1.Pos.Counts.length : Int) ≤ a2 ∧ ((mergeE xx yy).1.Neg.Counts.length : Int) ≤ a2) := by
          unfold mergeE
          rw [if_neg c1]
          by_cases c3 : 160 < widthS xx.Pos yy.Pos ∨ 160 < widthS xx.Neg yy.Neg
          · rw [if_pos c3]; simp
          · rw [if_neg c3]; exact fun h => c2 ⟨c3, h.2⟩
        generalize mergeE xx yy = me at *
        obtain ⟨z, ez⟩ := me
        dsimp only at e4 e5
        obtain ⟨x1, d1, d2⟩ := Down_ok gxk (k := 1) (by have := dx.s; omega)
        obtain ⟨y1, d3, d4⟩ := Down_ok gyk (k := 1) (by have := dy.s; omega)
        have d1' : hist_Down ⟨xx.Scale, xx.Zero, ⟨xx.Pos.Offset, xx.Pos.Counts⟩, ⟨xx.Neg.Offset, xx.Neg.Counts⟩⟩ 1 = _ := d1
        have d3' : hist_Down ⟨yy.Scale, yy.Zero, ⟨yy.Pos.Offset, yy.Pos.Counts⟩, ⟨yy.Neg.Offset, yy.Neg.Counts⟩⟩ 1 = _ := d3
        obtain ⟨res, i1, i2, i3⟩ := ih (k + 1) x1 y1 (by omega) (dx.comp d2) (dy.comp d4)
        have hst : ref16_Together_lp1 a2 ⟨x0, y0, 0⟩ (x0.Scale - (k : Int)) = some (.next (x0.Scale - ((k + 1 : Nat) : Int))) := by
          unfold ref16_Together_lp1
          dsimp only
          rw [bifTd (by omega), hw, r1, bind_some]
          dsimp only
          rw [r3, bind_some]
          dsimp only
          rw [m2, bind_some]
          dsimp only
          rw [bifFd e4, bifF (by
            rw [Bool.and_eq_false_iff, Bool.and_eq_false_iff, decide_eq_false_iff_not, decide_eq_false_iff_not, decide_eq_false_iff_not]
            by_cases h0 : ez = 0
            · by_cases h2 : (z.Pos.Counts.length : Int) ≤ a2
              · exact .inr fun h3 => e5 ⟨h0, h2, h3⟩
              · exact .inl (.inr h2)
            · exact .inl (.inl h0)), lett_eq, show w64 (x0.Scale - (k : Int) - 1) = x0.Scale - ((k + 1 : Nat) : Int) by have := gx.s2; rw [w64_id] <;> omega]
        refine ⟨res, ?_, ?_, i3⟩
        · rw [← i1]
          refine loop_next ?_
          unfold tocum_Together_lp1
          dsimp only
          rw [m1', bind_some]
          dsimp only
          rw [lett_eq, bifFd e4, lett_eq, bifF (by
            rw [Bool.and_eq_false_iff, decide_eq_false_iff_not, decide_eq_false_iff_not]
            by_cases h0 : ez = 0
            · exact .inr (by omega)
            · exact .inl h0), lett_eq, bifFd (by have := dx.s; omega), d1', bind_some]
          dsimp only
          rw [d3', bind_some]
        · rw [loop_next hst]; exact i2
theorem together_eq {a b : api_Hist} (oa : OkH a) (ob : OkH b) (a2 : Int) : ∃ res, tocum_Together a b a2 = some res ∧ ref16_Together a b a2 = some res ∧ (res = (H0, false) ∨ (Good a ∧ Good b ∧ TogOk a b a2 res)) := by
  unfold tocum_Together ref16_Together
  rcases Level_eq oa ob with ⟨e, he, h1, h2, _⟩ | ⟨x, y, h1, h2, l⟩
  · refine ⟨(H0, false), ?_, ?_, .inl rfl⟩
    · rw [h1, bind_some]
      dsimp only
      rw [bifT (by rw [decide_eq_false he]; rfl)]; rfl
    · rw [h2, bind_some]
      dsimp only
      rw [bifT (by rw [decide_eq_false he]; rfl)]; rfl
  · have gx := l.gx
    have gy := l.gy
    have hs : x.Scale = y.Scale := by rw [l.sx, l.sy]
    obtain ⟨res, i1, i2, i3⟩ := tog_loop gx gy hs a2 (x.Scale + 10).toNat 0 x y (by have := gx.s1; omega) (DnH.zero gx) (DnH.zero gy)
    have i2' : (loop (ref16_Together_lp1 a2 ⟨x, y, 0⟩) x.Scale = some (.out res)) ∨ (loop (ref16_Together_lp1 a2 ⟨x, y, 0⟩) x.Scale = some (.go ()) ∧ res = (H0, false)) := by simpa using i2
    refine ⟨res, ?_, ?_, .inr ⟨l.ga, l.gb, ?_⟩⟩
    · rw [h1, bind_some]
      dsimp only
      rw [bifF (by rfl), i1, flow_out]
    · rw [h2, bind_some]
      dsimp only
      rw [bifF (by rfl)]
      rcases i2' with i4 | ⟨i4, i5⟩
      · rw [i4, flow_out]
      · rw [i4, flow_go, i5]; rfl
    · unfold TogOk at *
      rw [l.dx.tot, l.dy.tot] at i3
      rcases i3 with i3 | ⟨z, z1, z2, z3, z4, z5, z6, ka, kb, xx, yy, w1, w2, w3, w4, w5⟩
      · exact .inl i3
      · have s1 := l.dx.s; have s2 := l.dy.s
        have t1 := l.ga.s1; have t2 := l.gb.s1
        exact .inr ⟨z, z1, z2, z3, z4, z5, z6, _, _, xx, yy, l.dx.comp w1, l.dy.comp w2, by omega, by omega, w5⟩
end Go.Lg
namespace Go.Lg
theorem w64_def (x : Int) : w64 x = (x + 9223372036854775808) % 18446744073709551616 - 9223372036854775808 := rfl
attribute [local irreducible] w64 toU64 toU8 shlU shrU shlB shrB
def S0 : api_State := ⟨false, 0, 0, 0, 0, 0, H0⟩
def Pt0 : api_Point := ⟨[], [], 0, 0, false, 0, 0, 0, 0, 0, H0, 0⟩
instance decI64 (x : Int) : Decidable (I64 x) := by unfold I64; exact inferInstance
theorem clone_h {h : api_Hist} (hp : h.Pos.Counts.length ≤ 1000000) (hn : h.Neg.Counts.length ≤ 1000000) : hist_Clone h = some h := by
  unfold hist_Clone slices_Clone_uint64_uint64
  rw [app_ok (by simp; omega), bind_some, app_ok (by simp; omega), bind_some]; rfl
theorem clone_p {p : api_Point} (ha : p.Attrs.length ≤ 1000) (o : OkH p.Hist) : point_Clone p = some p := by
  unfold point_Clone slices_Clone_api_Pair_api_Pair
  rw [app_ok (by simp; omega), bind_some, clone_h o.pl o.nl, bind_some]; rfl
/-! ### does a sum go round? -/
theorem half_facts {a : Int} (h : I64 a) : a = 2 * a.tdiv 2 + a.tmod 2 ∧ -1 ≤ a.tmod 2 ∧ a.tmod 2 ≤ 1 ∧ (0 ≤ a → 0 ≤ a.tmod 2) ∧ (a ≤ 0 → a.tmod 2 ≤ 0) := by
  have e := Int.mul_tdiv_add_tmod a 2
  have h1 : a.tmod 2 < 2 := Int.tmod_lt_of_pos a (by omega)
  have h2 : -2 < a.tmod 2 := by
    have := Int.tmod_lt_of_pos (-a) (show (0 : Int) < 2 by omega)
    rw [Int.neg_tmod] at this; omega
  have h3 : 0 ≤ a → 0 ≤ a.tmod 2 := fun q => Int.tmod_nonneg 2 q
  have h4 : a ≤ 0 → a.tmod 2 ≤ 0 := by
    intro q
    have := Int.tmod_nonneg (a := -a) 2 (by omega)
    rw [Int.neg_tmod] at this; omega
  unfold I64 at h
  generalize a.tdiv 2 = q at *
  generalize a.tmod 2 = r at *
  omega
theorem wide_core (h k r q : Int) (hh : -9223372036854775808 ≤ h + k ∧ h + k ≤ 9223372036854775807) (hk : (1 < r + q → h + k + 1 ≤ 9223372036854775807) ∧ (r + q < -1 → -9223372036854775808 ≤ h + k - 1)) (hr : -1 ≤ r ∧ r ≤ 1) (hq : -1 ≤ q ∧ q ≤ 1) (a : Int) (ha : a = 2 * (h + k) + (r + q)) :
    (lett (w64 (h + k)) fun half22 =>
 lett (w64 (r + q)) fun rest23 =>
 (bif decide (1 < rest23) then
 lett (w64 (half22 + 1)) fun half29 =>
 lett (w64 (rest23 - 2)) fun rest30 =>
 some (half29, rest30)
 else
 some (half22, rest23) : Option (Int × Int)).bind fun (half24, rest25) =>
 (bif decide (rest25 < (-1)) then
 lett (w64 (half24 - 1)) fun half36 =>
 lett (w64 (rest25 + 2)) fun rest37 =>
 some (half36, rest37)
 else
 some (half24, rest25) : Option (Int × Int)).bind fun (half31, rest32) =>
 bif ((decide (4611686018427387904 < half31)) || (decide (half31 < (-4611686018427387904)))) then
 some true
 else
 bif decide (half31 = 4611686018427387904) then
 lett (decide (0 ≤ rest32)) fun t42 =>
 some t42
 else
 lett (((decide (half31 = (-4611686018427387904))) && (decide (rest32 < 0)))) fun t45 =>
 some t45) = some (decide (¬ I64 a)) := by
  have fin : ∀ half rest : Int, -1 ≤ rest → rest ≤ 1 → a = 2 * half + rest → (bif ((decide (4611686018427387904 < half)) || (decide (half < (-4611686018427387904)))) then
 some true
 else
 bif decide (half = 4611686018427387904) then
 lett (decide (0 ≤ rest)) fun t42 =>
 some t42
 else
 lett (((decide (half = (-4611686018427387904))) && (decide (rest < 0)))) fun t45 =>
 some t45) = some (decide (¬ I64 a)) := by
    intro half rest h1 h2 h3
    unfold I64
    by_cases c1 : 4611686018427387904 < half ∨ half < -4611686018427387904
    · rw [bifT (by simpa using c1), decide_eq_true (by omega)]
    · rw [bifF (by simpa using c1)]
      by_cases c2 : half = 4611686018427387904
      · rw [bifTd c2, lett_eq]; congr 1; rw [decide_eq_decide]; omega
      · rw [bifFd c2, lett_eq, ← Bool.decide_and]; congr 1; rw [decide_eq_decide]; omega
  rw [lett_eq, lett_eq, w64_id (x := h + k) (by omega) (by omega), w64_id (x := r + q) (by omega) (by omega)]
  by_cases c1 : 1 < r + q
  · rw [bifTd c1, lett_eq, lett_eq, w64_id (x := h + k + 1) (by omega) (by omega), w64_id (x := r + q - 2) (by omega) (by omega), bind_some]
    dsimp only
    rw [bifFd (by omega), bind_some]
    exact fin _ _ (by omega) (by omega) (by omega)
  · rw [bifFd c1, bind_some]
    dsimp only
    by_cases c2 : r + q < -1
    · rw [bifTd c2, lett_eq, lett_eq, w64_id (x := h + k - 1) (by omega) (by omega), w64_id (x := r + q + 2) (by omega) (by omega), bind_some]
      exact fin _ _ (by omega) (by omega) (by omega)
    · rw [bifFd c2, bind_some]
      exact fin _ _ (by omega) (by omega) (by omega)
theorem wide_add {a b : Int} (ha : I64 a) (hb : I64 b) : ref15_Wide a b false = some (decide (¬ I64 (a + b))) := by
  obtain ⟨a1, a2, a3, a4, a5⟩ := half_facts ha
  obtain ⟨b1, b2, b3, b4, b5⟩ := half_facts hb
  have ha' := ha
  have hb' := hb
  unfold I64 at ha' hb'
  unfold ref15_Wide
  rw [lett_eq, lett_eq, lett_eq, lett_eq, w64_id (x := a.tdiv 2) (by omega) (by omega), w64_id (x := b.tdiv 2) (by omega) (by omega), cond_false, bind_some]
  exact wide_core _ _ _ _ (by omega) (by omega) ⟨a2, a3⟩ ⟨b2, b3⟩ _ (by omega)
/-! ### are all finite? -/
/-! ### the fitted histogram -/
noncomputable def fitR (h : api_Hist) (most : Int) : api_Hist × Int := (hist_Fit h most).getD (H0, 0)
noncomputable def fitH (p : api_Point) (temp most : Int) : api_Hist × Int :=
  if chkE p ≠ 0 then (p.Hist, chkE p) else if p.Temp ≠ temp then (p.Hist, 14) else if p.Flags ≠ 0 then (p.Hist, 3) else if p.Kind = 4 then fitR p.Hist most else (p.Hist, 0)
/-- a point that was let in -/
structure InP (p : api_Point) (temp most : Int) (H : api_Hist) : Prop where
  chk : chkE p = 0
  temp : p.Temp = temp
  flags : p.Flags = 0
  hist : (p.Kind = 4 ∧ Good p.Hist ∧ ∃ k : Nat, (k : Int) ≤ p.Hist.Scale + 10 ∧ DnH k p.Hist H ∧ (H.Pos.Counts.length : Int) ≤ most ∧ (H.Neg.Counts.length : Int) ≤ most) ∨ (p.Kind ≠ 4 ∧ p.Hist = H0 ∧ H = H0)
theorem chk0 {p : api_Point} (h : chkE p = 0) : KindP p ∧ (p.Mono = true → p.Kind = 1 ∨ p.Kind = 2) ∧ TimeP p ∧ OwnP p ∧ (p.Mono = true → p.Kind = 2 → finB p.Re = true) ∧ (p.Mono = true → 0 ≤ p.Int_ ∧ fLess p.Re 0 = false) ∧ (p.Kind = 4 → histE p.Hist = 0) ∧ labelE p.Name p.Attrs = 0 := by
  unfold chkE at h
  by_cases h1 : labelE p.Name p.Attrs = 0
  case neg => rw [if_pos h1] at h; exact absurd h h1
  rw [if_neg (fun e => e h1)] at h
  by_cases h2 : KindP p
  case neg => rw [if_pos h2] at h; exact absurd h (by decide)
  rw [if_neg (fun e => e h2)] at h
  by_cases h3 : (p.Mono = true ∧ ¬ (p.Kind = 1 ∨ p.Kind = 2)) ∨ ¬ TimeP p
  case pos => rw [if_pos h3] at h; exact absurd h (by decide)
  rw [if_neg h3] at h
  by_cases h4 : OwnP p
  case neg => rw [if_pos h4] at h; exact absurd h (by decide)
  rw [if_neg (fun e => e h4)] at h
  by_cases h5 : (p.Mono = true ∧ p.Kind = 2) ∧ finB p.Re = false
  case pos => rw [if_pos h5] at h; exact absurd h (by decide)
  rw [if_neg h5] at h
  by_cases h6 : p.Mono = true ∧ (p.Int_ < 0 ∨ fLess p.Re 0 = true)
  case pos => rw [if_pos h6] at h; exact absurd h (by decide)
  rw [if_neg h6] at h
  refine ⟨h2, fun hm => ?_, ?_, h4, fun hm hk => ?_, fun hm => ⟨?_, ?_⟩, fun hk => ?_, h1⟩
  · exact Decidable.byContradiction fun q => h3 (.inl ⟨hm, q⟩)
  · exact Decidable.byContradiction fun q => h3 (.inr q)
  · cases hf : finB p.Re
    · exact absurd ⟨⟨hm, hk⟩, hf⟩ h5
    · rfl
  · exact Decidable.byContradiction fun q => h6 ⟨hm, .inl (by omega)⟩
  · cases hf : fLess p.Re 0
    · rfl
    · exact absurd ⟨hm, .inr hf⟩ h6
  · rw [if_pos hk] at h; exact h
theorem chk_of {p : api_Point} (h1 : labelE p.Name p.Attrs = 0) (h2 : KindP p) (h3 : p.Mono = true → p.Kind = 1 ∨ p.Kind = 2) (h4 : TimeP p) (h5 : OwnP p) (h6 : p.Mono = true → p.Kind = 2 → finB p.Re = true) (h7 : p.Mono = true → 0 ≤ p.Int_ ∧ fLess p.Re 0 = false) (h8 : p.Kind = 4 → Good p.Hist) : chkE p = 0 := by
  unfold chkE
  rw [if_neg (fun e => e h1), if_neg (fun e => e h2), if_neg (fun e => e.elim (fun e => e.2 (h3 e.1)) (fun e => e h4)), if_neg (fun e => e h5), if_neg (fun e => by have := h6 e.1.1 e.1.2; rw [e.2] at this; cases this), if_neg (fun e => by
    have := h7 e.1
    rcases e.2 with q | q
    · omega
    · rw [this.2] at q; cases q)]
  split
  · rename_i hk; exact (good_iff _).2 (h8 hk)
  · rfl
/-- the fitted point -/
noncomputable def fitP (p : api_Point) (temp most : Int) : api_Point := { p with Hist := (fitH p temp most).1 }
noncomputable def togR (a b : api_Hist) (most : Int) : api_Hist × Bool := (tocum_Together a b most).getD (H0, false)
theorem togR_eq {a b : api_Hist} (oa : OkH a) (ob : OkH b) (most : Int) : tocum_Together a b most = some (togR a b most) ∧ ref16_Together a b most = some (togR a b most) ∧ (togR a b most = (H0, false) ∨ (Good a ∧ Good b ∧ TogOk a b most (togR a b most))) := by
  obtain ⟨res, h1, h2, h3⟩ := together_eq oa ob most
  have : togR a b most = res := by unfold togR; rw [h1]; rfl
  rw [this]
  exact ⟨h1, h2, h3⟩
/-! ### a state and a point together -/
def freshS (q : api_Point) : api_State := ⟨true, q.Start, q.Time, q.Int_, q.Re, q.Im, q.Hist⟩
noncomputable def sumC (s : api_State) (q : api_Point) (most : Int) : Option api_State :=
  if q.Kind = 1 then (if I64 (s.Int_ + q.Int_) then some ⟨true, s.Start, q.Time, s.Int_ + q.Int_, s.Re, s.Im, s.Hist⟩ else none)
  else if q.Kind = 4 then (if (togR s.Hist q.Hist most).2 = true then some ⟨true, s.Start, q.Time, s.Int_, s.Re, s.Im, (togR s.Hist q.Hist most).1⟩ else none)
  else if [fAdd s.Re q.Re, fAdd s.Im q.Im].all finB = false ∧ [s.Re, s.Im, q.Re, q.Im].all finB = true then none
  else some ⟨true, s.Start, q.Time, s.Int_, fAdd s.Re q.Re, fAdd s.Im q.Im, s.Hist⟩
noncomputable def stC (s : api_State) (q : api_Point) (most : Int) : api_State × Int :=
  if s.Some = false then (freshS q, 1) else if s.Time < q.Start then (freshS q, 8) else match sumC s q most with
    | none => (freshS q, 16)
    | some t => (t, 0)
def ansP (t : api_State) (q : api_Point) (fl : Int) : api_Point :=
  if q.Kind = 1 then ⟨q.Name, q.Attrs, q.Kind, 1, q.Mono, t.Start, q.Time, t.Int_, 0, 0, H0, fl⟩
  else if q.Kind = 2 then ⟨q.Name, q.Attrs, q.Kind, 1, q.Mono, t.Start, q.Time, 0, t.Re, 0, H0, fl⟩
  else if q.Kind = 5 then ⟨q.Name, q.Attrs, q.Kind, 1, q.Mono, t.Start, q.Time, 0, t.Re, t.Im, H0, fl⟩
  else ⟨q.Name, q.Attrs, q.Kind, 1, q.Mono, t.Start, q.Time, 0, 0, 0, t.Hist, fl⟩
/-- what a point makes of a state -/
noncomputable def nextC (s : api_State) (p : api_Point) (most : Int) : api_State × api_Point × Int :=
  if (fitH p 2 most).2 ≠ 0 then (S0, Pt0, (fitH p 2 most).2)
  else if s.Some = true ∧ p.Time ≤ s.Time then (S0, Pt0, 9)
  else if s.Some = true ∧ p.Start < s.Time then (S0, Pt0, 10)
  else ((stC s (fitP p 2 most) most).1, ansP (stC s (fitP p 2 most) most).1 (fitP p 2 most) (stC s (fitP p 2 most) most).2, 0)
end Go.Lg
namespace Go.Lg
attribute [local irreducible] w64 toU64 toU8 shlU shrU shlB shrB
/-! ### light points -/
def lightA (l : List api_Pair) : Bool := l.all fun a => decide (a.Key.length ≤ 100) && decide (a.Val.length ≤ 100)
theorem rlightA_eq (l : List api_Pair) : ref11_Light l = some (decide (l.length ≤ 20) && lightA l) := by
  unfold ref11_Light
  by_cases h : l.length ≤ 20
  · rw [bifFd (by omega), decide_eq_true h, Bool.true_and]
    have hs : ∀ i : Nat, i < l.length → ref11_Light_lp1 l (i : Int) = some (rndE i (if (decide ((l.getD i P0).Key.length ≤ 100) && decide ((l.getD i P0).Val.length ≤ 100)) = true then none else some false)) := by
      intro i hi
      unfold ref11_Light_lp1
      rw [bifTd (by omega), idx_nat hi, bind_some, bind_some, getD_lt hi]
      by_cases h1 : l[i].Key.length ≤ 100
      · rw [bifFd (by omega), bind_some]
        by_cases h2 : l[i].Val.length ≤ 100
        · rw [bifFd (by omega), lett_eq, w64_succ (by omega), if_pos (by simp [h1, h2])]; rfl
        · rw [bifTd (by omega), if_neg (by simp [h2])]; rfl
      · rw [bifTd (by omega), bind_some, bifT rfl, if_neg (by simp [h1])]; rfl
    rw [scan0 (n := l.length) _ hs (by unfold ref11_Light_lp1; rw [bifFd (by omega)]), flow_E]
    exact all_first (p := fun a : api_Pair => decide (a.Key.length ≤ 100) && decide (a.Val.length ≤ 100)) fun i hi => by rw [getD_lt hi]
  · rw [bifTd (by omega), decide_eq_false h, Bool.false_and]
def lightP (p : api_Point) : Bool := decide (p.Name.length ≤ 100) && ((decide (p.Attrs.length ≤ 20) && lightA p.Attrs) && (decide ((p.Hist.Pos.Counts.length : Int) ≤ 300) && decide ((p.Hist.Neg.Counts.length : Int) ≤ 300)))
theorem rlightP_eq (p : api_Point) : ref12_Light p = some (lightP p) := by
  unfold ref12_Light lightP
  rw [rlightA_eq, light_eq]
  by_cases h : p.Name.length ≤ 100
  · rw [bifTd (by omega), bind_some, bind_some, decide_eq_true h, Bool.true_and]
    cases (decide (p.Attrs.length ≤ 20) && lightA p.Attrs) <;> rfl
  · rw [bifFd (by omega), bind_some, bifF rfl, bind_some, decide_eq_false h, Bool.false_and]
structure LiP (p : api_Point) : Prop where
  la : p.Attrs.length ≤ 20
  lp : (p.Hist.Pos.Counts.length : Int) ≤ 300
  ln : (p.Hist.Neg.Counts.length : Int) ≤ 300
theorem lightP_of {p : api_Point} (h : lightP p = true) : LiP p := by
  unfold lightP at h
  simp only [Bool.and_eq_true, decide_eq_true_eq] at h
  exact ⟨h.2.1.1, h.2.2.1, h.2.2.2⟩
structure IsP (p : api_Point) : Prop where
  i : I64 p.Int_
  h : Is p.Hist
structure IsS (s : api_State) : Prop where
  i : I64 s.Int_
  h : Is s.Hist
theorem LiP.ok {p : api_Point} (l : LiP p) (i : IsP p) : OkH p.Hist := i.h.ok l.lp l.ln
/-! ### by the document -/
/-- a state that has values of a kind alone -/
def OwnS (s : api_State) (kind : Int) : Prop :=
  (kind = 1 → s.Re = 0 ∧ s.Im = 0 ∧ s.Hist = H0) ∧ (kind = 2 → s.Int_ = 0 ∧ s.Im = 0 ∧ s.Hist = H0) ∧ (kind = 4 → s.Int_ = 0 ∧ s.Re = 0 ∧ s.Im = 0) ∧ (kind = 5 → s.Int_ = 0 ∧ s.Hist = H0)
/-- what a point of its kind alone holds -/
structure KindQ (q : api_Point) : Prop where
  k : q.Kind = 1 ∨ q.Kind = 2 ∨ q.Kind = 4 ∨ q.Kind = 5
  i : q.Kind ≠ 1 → q.Int_ = 0
  r : q.Kind = 1 ∨ q.Kind = 4 → q.Re = 0
  m : q.Kind ≠ 5 → q.Im = 0
  h : q.Kind ≠ 4 → q.Hist = H0
end Go.Lg
namespace Go.Lg
attribute [local irreducible] w64 toU64 toU8 shlU shrU shlB shrB
def aw (st ti i : Int) : api_Point := ⟨[120], [], 1, 2, false, st, ti, i, 0, 0, H0, 0⟩
theorem aw_label : labelE [120] [] = 0 := by decide
theorem aw_chk {st ti i : Int} (h : 0 ≤ st) (h' : st < ti) (h2 : ti ≤ 1000) : chkE (aw st ti i) = 0 := by
  refine chk_of aw_label ?_ (fun e => by cases e) ?_ ?_ (fun e => by cases e) (fun e => by cases e) (fun e => by cases e)
  · unfold KindP aw; dsimp only; omega
  · unfold TimeP aw; dsimp only; omega
  · unfold OwnP aw; dsimp only; exact ⟨.inl rfl, .inr rfl, .inr rfl, .inr rfl, by omega⟩
end Go.Lg
namespace Go.Lg
open Ieee
attribute [local irreducible] w64 toU64 toU8 shlU shrU shlB shrB
/-- at least nought -/
def fGe (n : Nat) : Prop := fS n = false ∨ n % 9223372036854775808 = 0
theorem odd_fin {a : UInt64} (h : fE a.toNat ≠ 2047) : fOdd a.toNat = false := by
  unfold fOdd; exact decide_eq_false fun e => h e.1
theorem less0_iff {a : UInt64} (h : fE a.toNat ≠ 2047) : fLess a 0 = false ↔ fGe a.toNat := by
  have e0 : (0 : UInt64).toNat = 0 := rfl
  have o0 : fOdd (0 : UInt64).toNat = false := by rw [e0]; decide
  rw [fLess_eq (odd_fin h) o0, e0]
  unfold lessN fGe
  have s0 : fS 0 = false := by decide
  rw [s0]
  by_cases h1 : a.toNat % 9223372036854775808 = 0
  · rw [if_pos ⟨h1, rfl⟩]; simp [h1]
  · rw [if_neg (fun e => h1 e.1)]
    cases hs : fS a.toNat
    · simp
    · simp [h1]
theorem nearest_nat (s : Bool) (mag : Nat) (p : Int) : ∃ r, r < 9223372036854775808 ∧ double.nearest s mag p = (if s then 9223372036854775808 + r else r) := by
  have hsw : double.signWeight = 9223372036854775808 := by decide
  have hi := double.infRung_lt
  rw [hsw] at hi
  unfold Format.nearest Format.word
  dsimp only
  split
  · exact ⟨0, by omega, by rw [hsw]⟩
  · exact ⟨_, Nat.lt_of_le_of_lt (Nat.min_le_right ..) hi, by rw [hsw]⟩
theorem nearest_ge (mag : Nat) (p : Int) : fGe (UInt64.ofNat (double.nearest false mag p)).toNat := by
  obtain ⟨r, h1, h2⟩ := nearest_nat false mag p
  left
  rw [h2, if_neg (by simp), UInt64.toNat_ofNat']
  unfold fS
  exact decide_eq_false (by omega)
theorem zero_ge (s : Bool) (p : Int) : fGe (UInt64.ofNat (double.nearest s 0 p)).toNat := by
  right
  rw [nearest_zero]
  cases s <;> decide
theorem zero_W {n : Nat} (h : n % 9223372036854775808 = 0) : fW n = 0 := by
  have e : fE n = 0 := by unfold fE; omega
  have e2 : fM n = 0 := by unfold fM; omega
  unfold fW; rw [if_pos e, e2]
theorem add_fin_eq {a b : UInt64} (ha : fE a.toNat ≠ 2047) (hb : fE b.toNat ≠ 2047) {X Y : Nat} (hX : fW a.toNat * 2 ^ (fX a.toNat - min (fX a.toNat) (fX b.toNat)) = X) (hY : fW b.toNat * 2 ^ (fX b.toNat - min (fX a.toNat) (fX b.toNat)) = Y) :
    fAdd a b = UInt64.ofNat (double.nearest (if fS a.toNat = fS b.toNat then fS a.toNat else if X = Y then false else if Y < X then fS a.toNat else fS b.toNat)
      (if fS a.toNat = fS b.toNat then X + Y else if Y ≤ X then X - Y else Y - X) ((min (fX a.toNat) (fX b.toNat) : Nat) - 1075)) := by
  have ra := read_eq (UInt64.toNat_lt a)
  have rb := read_eq (UInt64.toNat_lt b)
  rw [if_neg ha] at ra
  rw [if_neg hb] at rb
  unfold fAdd Format.add
  rw [ra, rb, sum_write, hX, hY]
  simp only [Option.map_some, Format.write, ite_self]
theorem add_ge {a b : UInt64} (ha : fE a.toNat ≠ 2047) (hb : fE b.toNat ≠ 2047) (ga : fGe a.toNat) (gb : fGe b.toNat) : fGe (fAdd a b).toNat := by
  obtain ⟨X, hX⟩ : ∃ X, fW a.toNat * 2 ^ (fX a.toNat - min (fX a.toNat) (fX b.toNat)) = X := ⟨_, rfl⟩
  obtain ⟨Y, hY⟩ : ∃ Y, fW b.toNat * 2 ^ (fX b.toNat - min (fX a.toNat) (fX b.toNat)) = Y := ⟨_, rfl⟩
  rw [add_fin_eq ha hb hX hY]
  have xa : fS a.toNat = true → X = 0 := by
    intro h
    rcases ga with g | g
    · rw [h] at g; cases g
    · rw [zero_W g, Nat.zero_mul] at hX; exact hX.symm
  have yb : fS b.toNat = true → Y = 0 := by
    intro h
    rcases gb with g | g
    · rw [h] at g; cases g
    · rw [zero_W g, Nat.zero_mul] at hY; exact hY.symm
  cases hs : fS a.toNat <;> cases ht : fS b.toNat
  · rw [if_pos rfl]; exact nearest_ge _ _
  · have := yb ht
    subst this
    rw [if_neg (by simp)]
    by_cases hz : X = 0
    · rw [if_pos hz]; exact nearest_ge _ _
    · rw [if_neg hz, if_pos (by omega)]; exact nearest_ge _ _
  · have := xa hs
    subst this
    rw [if_neg (by simp)]
    by_cases hz : 0 = Y
    · rw [if_pos hz]; exact nearest_ge _ _
    · rw [if_neg hz, if_neg (by omega)]; exact nearest_ge _ _
  · rw [if_pos rfl, if_pos rfl, xa hs, yb ht]; exact zero_ge _ _
end Go.Lg
namespace Go.Lg
structure ref36_Got where
  P : api_Point
  E : Int
  deriving DecidableEq
structure ref36_Rolled where
  L : List api_Point
  At : Int
  E : Int
  deriving DecidableEq
noncomputable def rollup_Window (a0 : Int) (a1 : Int) : Option Int :=
 bif (((decide (a1 < 1)) || (decide (a0 < 0))) || (decide (4503599627370496 < a0))) then
 some (-1)
 else
 chk ((!decide (a1 = 0))) <|
 lett (w64 (a0.tdiv a1)) fun t16 =>
 some t16
noncomputable def cmp_isNaN_string (a0 : List UInt8) : Option Bool :=
 lett ((!decide (a0 = a0))) fun t11 =>
 some t11
noncomputable def cmp_Compare_string (a0 : List UInt8) (a1 : List UInt8) : Option Int :=
 (cmp_isNaN_string a0).bind fun r11 =>
 (cmp_isNaN_string a1).bind fun r20 =>
 bif r11 then
 bif r20 then
 some 0
 else
 some (-1)
 else
 bif r20 then
 some 1
 else
 bif sLess a0 a1 then
 some (-1)
 else
 bif sLess a1 a0 then
 some 1
 else
 some 0
noncomputable def label_Sorted_lp3 (a52 : Int) : (List api_Pair × Int) → Option (Rnd (List api_Pair × Int) (List api_Pair) (List api_Pair)) := fun (data114, j117) =>
 (bif decide (a52 < j117) then
 (idx data114 j117).bind fun e167 =>
 (idx data114 (w64 (j117 - 1))).bind fun e194 =>
 ((cmp_Compare_string e167.Key e194.Key).bind fun r228 =>
 some r228 : Option Int).bind fun x211 =>
 some (decide (x211 < 0))
 else
 some false).bind fun x150 =>
 bif x150 then
 (idx data114 (w64 (j117 - 1))).bind fun e273 =>
 (idx data114 j117).bind fun e295 =>
 (some ()).bind fun (_ : Unit) =>
 (idx data114 j117).bind fun e311 =>
 (setI data114 j117 e273).bind fun xs324 =>
 (idx xs324 (w64 (j117 - 1))).bind fun e328 =>
 (setI xs324 (w64 (j117 - 1)) e295).bind fun xs341 =>
 lett (w64 (j117 - 1)) fun j345 =>
 some (.next (xs341, j345))
 else
 some (.brk data114)
noncomputable def label_Sorted_lp2 (a52 : Int) (b53 : Int) : (List api_Pair × Int) → Option (Rnd (List api_Pair × Int) (List api_Pair) (List api_Pair)) := fun (data83, i86) =>
 bif decide (i86 < b53) then
 (flow (loop (label_Sorted_lp3 a52) (data83, i86)) fun data121 =>
 some data121 : Option (List api_Pair)).bind fun data106 =>
 lett (w64 (i86 + 1)) fun i354 =>
 some (.next (data106, i354))
 else
 some (.brk data83)
noncomputable def label_Sorted_lp1 (r12 : List api_Pair) : (List api_Pair × Int × Int) → Option (Rnd (List api_Pair × Int × Int) (List api_Pair × Int) (List api_Pair × Int)) := fun (data49, a52, b53) =>
 bif decide (b53 ≤ (r12.length : Int)) then
 (lett (w64 (a52 + 1)) fun i82 =>
 flow (loop (label_Sorted_lp2 a52 b53) (data49, i82)) fun x90 =>
 some x90 : Option (List api_Pair)).bind fun data74 =>
 lett (w64 (b53 + 20)) fun b364 =>
 some (.next (data74, b53, b364))
 else
 some (.brk (data49, a52))
noncomputable def label_Sorted_lp5 (a43 : Int) : (List api_Pair × Int) → Option (Rnd (List api_Pair × Int) (List api_Pair) (List api_Pair)) := fun (data414, j417) =>
 (bif decide (a43 < j417) then
 (idx data414 j417).bind fun e467 =>
 (idx data414 (w64 (j417 - 1))).bind fun e494 =>
 ((cmp_Compare_string e467.Key e494.Key).bind fun r528 =>
 some r528 : Option Int).bind fun x511 =>
 some (decide (x511 < 0))
 else
 some false).bind fun x450 =>
 bif x450 then
 (idx data414 (w64 (j417 - 1))).bind fun e573 =>
 (idx data414 j417).bind fun e595 =>
 (some ()).bind fun (_ : Unit) =>
 (idx data414 j417).bind fun e611 =>
 (setI data414 j417 e573).bind fun xs624 =>
 (idx xs624 (w64 (j417 - 1))).bind fun e628 =>
 (setI xs624 (w64 (j417 - 1)) e595).bind fun xs641 =>
 lett (w64 (j417 - 1)) fun j645 =>
 some (.next (xs641, j645))
 else
 some (.brk data414)
noncomputable def label_Sorted_lp4 (r12 : List api_Pair) (a43 : Int) : (List api_Pair × Int) → Option (Rnd (List api_Pair × Int) (List api_Pair) (List api_Pair)) := fun (data383, i386) =>
 bif decide (i386 < (r12.length : Int)) then
 (flow (loop (label_Sorted_lp5 a43) (data383, i386)) fun data421 =>
 some data421 : Option (List api_Pair)).bind fun data406 =>
 lett (w64 (i386 + 1)) fun i654 =>
 some (.next (data406, i654))
 else
 some (.brk data383)
noncomputable def label_Sorted_lp7 (r12 : List api_Pair) (b675 : Int) : Unit → Option (Rnd Unit Unit Unit) := fun (_ : Unit) =>
 bif decide (b675 ≤ (r12.length : Int)) then
 none
 else
 some (.brk ())
noncomputable def label_Sorted_lp6 (r12 : List api_Pair) : Int → Option (Rnd Int Unit (List api_Pair)) := fun blockSize664 =>
 bif decide (blockSize664 < (r12.length : Int)) then
 (lett (w64 (2 * blockSize664)) fun b675 =>
 (flow (loop (label_Sorted_lp7 r12 b675) ()) fun (_ : Unit) =>
 some ()).bind fun (_ : Unit) =>
 (lett (w64 (0 + blockSize664)) fun m687 =>
 bif decide (m687 < (r12.length : Int)) then
 none
 else
 some ()).bind fun (_ : Unit) =>
 lett (w64 (blockSize664 * 2)) fun blockSize689 =>
 some blockSize689 : Option Int).bind fun blockSize672 =>
 some (.next blockSize672)
 else
 some (.brk ())
noncomputable def label_Sorted (a0 : List api_Pair) : Option (List api_Pair) :=
 (slices_Clone_api_Pair_api_Pair a0).bind fun r12 =>
 (((flow (loop (label_Sorted_lp1 r12) (r12, 0, 20)) fun (data57, a60) =>
 some (data57, a60) : Option (List api_Pair × Int)).bind fun (data40, a43) =>
 (lett (w64 (a43 + 1)) fun i382 =>
 flow (loop (label_Sorted_lp4 r12 a43) (data40, i382)) fun x390 =>
 some x390 : Option (List api_Pair)).bind fun data374 =>
 flow (loop (label_Sorted_lp6 r12) 20) fun (_ : Unit) =>
 some data374 : Option (List api_Pair)).bind fun x32 =>
 some x32 : Option (List api_Pair)).bind fun out24 =>
 some out24
noncomputable def label_Text_lp1 (r71 : List api_Pair) : (List UInt8 × Int) → Option (Rnd (List UInt8 × Int) (List UInt8) (List UInt8 × Int)) := fun (c84, x87) =>
 bif decide (x87 < (r71.length : Int)) then
 (idx r71 x87).bind fun e111 =>
 (app [59] e111.Key).bind fun t130 =>
 (app t130 [61]).bind fun t131 =>
 (app t131 e111.Val).bind fun t132 =>
 ((some () : Option Unit).bind fun (_ : Unit) =>
 (app c84 t132).bind fun xs149 =>
 lett ((t132.length : Int)) fun t165 =>
 some (xs149, t165) : Option (List UInt8 × Int)).bind fun (c134, x137) =>
 some (.next (c134, w64 (x87 + 1)))
 else
 some (.brk c84)
noncomputable def label_Text (a0 : List UInt8) (a1 : List api_Pair) : Option (List UInt8 × Int) :=
 (label_Check a0 a1).bind fun r12 =>
 bif (!decide (r12 = 0)) then
 some ([], r12)
 else
 ((some () : Option Unit).bind fun (_ : Unit) =>
 (app ([] : List UInt8) a0).bind fun xs47 =>
 lett ((a0.length : Int)) fun t62 =>
 some (xs47, t62) : Option (List UInt8 × Int)).bind fun (c29, x32) =>
 (label_Sorted a1).bind fun r71 =>
 flow (loop (label_Text_lp1 r71) (c29, 0)) fun c92 =>
 (some () : Option Unit).bind fun (_ : Unit) =>
 some (c92, 0)
noncomputable def point_bit (a0 : Bool) : Option Int :=
 bif a0 then
 some 1
 else
 some 0
noncomputable def point_Key (a0 : api_Point) : Option (List UInt8 × Int) :=
 (point_Check a0).bind fun r34 =>
 bif (!decide (r34 = 0)) then
 some ([], r34)
 else
 (label_Text a0.Name a0.Attrs).bind fun (r47, r48) =>
 (app r47 [32]).bind fun t62 =>
 (point_bit a0.Mono).bind fun r105 =>
 (app t62 [toU8 (w64 (48 + a0.Kind)), toU8 (w64 (48 + a0.Temp)), toU8 (w64 (48 + r105))]).bind fun t129 =>
 some (t129, 0)
noncomputable def rollup_fits (a0 : api_Point) (a1 : api_Point) : Option Int :=
 (point_Key a0).bind fun (r61, r62) =>
 (point_Key a1).bind fun (r78, r79) =>
 lett ((!decide (r61 = r78))) fun t88 =>
 bif t88 then
 some 14
 else
 lett (decide (a1.Time ≤ a0.Time)) fun t94 =>
 bif t94 then
 some 9
 else
 lett (((decide (a0.Temp = 2)) && (decide (a1.Start < a0.Time)))) fun t98 =>
 bif t98 then
 some 10
 else
 some 0
noncomputable def rollup_values (a0 : api_Point) (a1 : api_Point) : Option (Int × api_Point) :=
 lett (decide (a0.Kind = 1)) fun t36 =>
 bif t36 then
 lett (w64 (a0.Int_ + a1.Int_)) fun sum42 =>
 bif (((decide (0 < a1.Int_)) && (decide (sum42 < a0.Int_))) || ((decide (a1.Int_ < 0)) && (decide (a0.Int_ < sum42)))) then
 some (4, a0)
 else
 some (0, (api_Point.mk a0.Name a0.Attrs a0.Kind a0.Temp a0.Mono a0.Start a0.Time sum42 a0.Re a0.Im a0.Hist a0.Flags))
 else
 lett (decide (a0.Kind = 2)) fun t67 =>
 bif t67 then
 (num_Add a0.Re a1.Re).bind fun r96 =>
 (bif a0.Mono then
 (num_Finite r96).bind fun r123 =>
 some (!r123)
 else
 some false : Option Bool).bind fun x116 =>
 bif x116 then
 some (11, (api_Point.mk a0.Name a0.Attrs a0.Kind a0.Temp a0.Mono a0.Start a0.Time a0.Int_ r96 a0.Im a0.Hist a0.Flags))
 else
 some (0, (api_Point.mk a0.Name a0.Attrs a0.Kind a0.Temp a0.Mono a0.Start a0.Time a0.Int_ r96 a0.Im a0.Hist a0.Flags))
 else
 lett (decide (a0.Kind = 5)) fun t167 =>
 bif t167 then
 (some ()).bind fun (_ : Unit) =>
 (num_AddPhasor a0.Re a0.Im a1.Re a1.Im).bind fun (r216, r217) =>
 some (0, (api_Point.mk a0.Name a0.Attrs a0.Kind a0.Temp a0.Mono a0.Start a0.Time a0.Int_ r216 r217 a0.Hist a0.Flags))
 else
 lett (decide (a0.Kind = 4)) fun t271 =>
 bif t271 then
 ((tocum_Together a0.Hist a1.Hist 160).bind fun (r324, r325) =>
 some (r324.Scale, r324.Zero, r324.Pos.Offset, r324.Pos.Counts, r324.Neg.Offset, r324.Neg.Counts, r325)).bind fun (x299, x300, x301, x302, x305, x306, x309) =>
 bif (!x309) then
 some (4, a0)
 else
 some (0, (api_Point.mk a0.Name a0.Attrs a0.Kind a0.Temp a0.Mono a0.Start a0.Time a0.Int_ a0.Re a0.Im (api_Hist.mk x299 x300 (api_Side.mk x301 x302) (api_Side.mk x305 x306)) a0.Flags))
 else
 some (0, a0)
noncomputable def rollup_join (a0 : api_Point) (a1 : api_Point) : Option (api_Point × Int) :=
 (point_Clone a1).bind fun r66 =>
 lett (orI a0.Flags a1.Flags) fun t162 =>
 (bif decide (a0.Kind = 3) then
 some a1.Start
 else
 some a0.Start : Option Int).bind fun c167 =>
 bif (!decide (a0.Temp = 2)) then
 some ((api_Point.mk r66.Name r66.Attrs r66.Kind r66.Temp r66.Mono c167 r66.Time r66.Int_ r66.Re r66.Im r66.Hist t162), 0)
 else
 (rollup_values (api_Point.mk r66.Name r66.Attrs r66.Kind r66.Temp r66.Mono c167 r66.Time a0.Int_ a0.Re a0.Im a0.Hist t162) a1).bind fun (r404, r405) =>
 some (r405, r404)
noncomputable def rollup_Roll_lp1 (a0 : List api_Point) (a1 : Int) : (List api_Point × Int) → Option (Rnd (List api_Point × Int) (List api_Point) (List api_Point × Int × Int)) := fun (out14, x17) =>
 bif decide (x17 < (a0.length : Int)) then
 flow ((idx a0 x17).bind fun e42 =>
 (point_Check e42).bind fun r87 =>
 (bif ((decide (r87 = 0)) && (decide (0 < x17))) then
 (idx a0 (w64 (x17 - 1))).bind fun e106 =>
 (rollup_fits e106 e42).bind fun r136 =>
 some r136
 else
 some r87 : Option Int).bind fun e96 =>
 bif (!decide (e96 = 0)) then
 outs (outr (some ([], x17, e96)))
 else
 lett ((out14.length : Int)) fun nv151 =>
 (bif decide (nv151 = 0) then
 some true
 else
 (idx out14 (w64 (nv151 - 1))).bind fun e183 =>
 (rollup_Window e183.Time a1).bind fun r226 =>
 (rollup_Window e42.Time a1).bind fun r235 =>
 some (!decide (r226 = r235))).bind fun x163 =>
 bif x163 then
 (point_Clone e42).bind fun r267 =>
 (app out14 [r267]).bind fun xs320 =>
 some (.go xs320)
 else
 (idx out14 (w64 (nv151 - 1))).bind fun e356 =>
 (rollup_join e356 e42).bind fun (r402, r403) =>
 (idx out14 (w64 (nv151 - 1))).bind fun e430 =>
 (setI out14 (w64 (nv151 - 1)) r402).bind fun xs462 =>
 bif (!decide (r403 = 0)) then
 outs (outr (some ([], x17, r403)))
 else
 some (.go xs462) : Option (Flow (List api_Point) (Rnd (List api_Point × Int) (List api_Point) (List api_Point × Int × Int)))) fun out34 =>
 some (.next (out34, w64 (x17 + 1)))
 else
 some (.brk out14)
noncomputable def rollup_Roll (a0 : List api_Point) (a1 : Int) : Option (List api_Point × Int × Int) :=
 bif decide (a1 < 1) then
 some ([], 0, 1)
 else
 flow (loop (rollup_Roll_lp1 a0 a1) ([], 0)) fun out21 =>
 some (out21, 0, 0)
noncomputable def law36_awake  : Option Bool :=
 (rollup_Roll [(api_Point.mk [120] [] 1 2 false 5 10 5 0 0 (api_Hist.mk 0 0 (api_Side.mk 0 []) (api_Side.mk 0 [])) 0), (api_Point.mk [120] [] 1 2 false 10 12 3 0 0 (api_Hist.mk 0 0 (api_Side.mk 0 []) (api_Side.mk 0 [])) 0), (api_Point.mk [120] [] 1 2 false 20 25 2 0 0 (api_Hist.mk 0 0 (api_Side.mk 0 []) (api_Side.mk 0 [])) 0)] 20).bind fun (r49, r50, r51) =>
 (rollup_Roll [(api_Point.mk [120] [] 1 2 false 10 12 3 0 0 (api_Hist.mk 0 0 (api_Side.mk 0 []) (api_Side.mk 0 [])) 0), (api_Point.mk [120] [] 1 2 false 5 10 5 0 0 (api_Hist.mk 0 0 (api_Side.mk 0 []) (api_Side.mk 0 [])) 0)] 20).bind fun (r77, r78, r79) =>
 (bif ((decide (r51 = 0)) && (decide ((r49.length : Int) = 2))) then
 (idx r49 0).bind fun e99 =>
 some (decide (e99.Int_ = 8))
 else
 some false : Option Bool).bind fun x95 =>
 (bif x95 then
 (idx r49 0).bind fun e124 =>
 some (decide (e124.Start = 5))
 else
 some false : Option Bool).bind fun x120 =>
 (bif x120 then
 (idx r49 0).bind fun e149 =>
 some (decide (e149.Time = 12))
 else
 some false : Option Bool).bind fun x145 =>
 (bif x145 then
 (idx r49 1).bind fun e174 =>
 some (decide (e174.Int_ = 2))
 else
 some false : Option Bool).bind fun x170 =>
 (bif ((x170 && (decide (r78 = 1))) && (decide (r79 = 9))) then
 (rollup_Window 12 5).bind fun r204 =>
 some (decide (r204 = 2))
 else
 some false : Option Bool).bind fun x197 =>
 some x197
noncomputable def ref11_Text_lp1 (r24 : List api_Pair) : (List UInt8 × Int) → Option (Rnd (List UInt8 × Int) (List UInt8) (List UInt8 × Int)) := fun (s36, i37) =>
 bif decide (i37 < (r24.length : Int)) then
 (app s36 [59]).bind fun t55 =>
 (idx r24 i37).bind fun e56 =>
 (app t55 e56.Key).bind fun t67 =>
 (app t67 [61]).bind fun t68 =>
 (idx r24 i37).bind fun e69 =>
 (app t68 e69.Val).bind fun t79 =>
 lett (w64 (i37 + 1)) fun i80 =>
 some (.next (t79, i80))
 else
 some (.brk s36)
noncomputable def ref11_Text (a0 : List UInt8) (a1 : List api_Pair) : Option (List UInt8 × Int) :=
 (ref11_Check a0 a1).bind fun r12 =>
 bif (!decide (r12 = 0)) then
 some ([], r12)
 else
 (ref11_Sorted a1).bind fun r24 =>
 flow (loop (ref11_Text_lp1 r24) (a0, 0)) fun s41 =>
 some (s41, 0)
noncomputable def ref12_digit (a0 : Int) : Option (List UInt8) :=
 lett ([toU8 (w64 (48 + a0))]) fun t16 =>
 some t16
noncomputable def ref12_one (a0 : Bool) : Option Int :=
 bif a0 then
 some 1
 else
 some 0
noncomputable def ref12_Key (a0 : api_Point) : Option (List UInt8 × Int) :=
 (ref12_Check a0).bind fun r34 =>
 bif (!decide (r34 = 0)) then
 some ([], r34)
 else
 (ref11_Text a0.Name a0.Attrs).bind fun (r47, r48) =>
 (app r47 [32]).bind fun t62 =>
 (ref12_digit a0.Kind).bind fun r93 =>
 (app t62 r93).bind fun t102 =>
 (ref12_digit a0.Temp).bind fun r106 =>
 (app t102 r106).bind fun t115 =>
 (ref12_one a0.Mono).bind fun r119 =>
 (ref12_digit r119).bind fun r128 =>
 (app t115 r128).bind fun t137 =>
 some (t137, 0)
noncomputable def ref36_behind (a0 : api_Point) (a1 : api_Point) : Option Int :=
 (ref12_Key a0).bind fun (r61, r62) =>
 (ref12_Key a1).bind fun (r78, r79) =>
 bif (!decide (r61 = r78)) then
 some 14
 else
 bif decide (a1.Time ≤ a0.Time) then
 some 9
 else
 bif ((decide (a0.Temp = 2)) && (decide (a1.Start < a0.Time))) then
 some 10
 else
 some 0
noncomputable def ref36_flags_lp1 (a0 : Int) (a1 : Int) : (Int × Int) → Option (Rnd (Int × Int) Int Int) := fun (out11, bit12) =>
 bif decide (bit12 ≤ 16) then
 (chk ((!decide (bit12 = 0))) <|
 (bif decide ((w64 (a0.tdiv bit12)).tmod 2 = 1) then
 some true
 else
 chk ((!decide (bit12 = 0))) <|
 some (decide ((w64 (a1.tdiv bit12)).tmod 2 = 1)) : Option Bool).bind fun x25 =>
 bif x25 then
 lett (w64 (out11 + bit12)) fun out31 =>
 some out31
 else
 some out11 : Option Int).bind fun out21 =>
 lett (w64 (2 * bit12)) fun bit32 =>
 some (.next (out21, bit32))
 else
 some (.brk out11)
noncomputable def ref36_flags (a0 : Int) (a1 : Int) : Option Int :=
 flow (loop (ref36_flags_lp1 a0 a1) (0, 1)) fun out13 =>
 some out13
noncomputable def ref36_together (a0 : api_Point) (a1 : api_Point) : Option ref36_Got :=
 (bif (!decide (a1.Kind = 3)) then
 some a0.Start
 else
 some a1.Start : Option Int).bind fun c69 =>
 (ref36_flags a0.Flags a1.Flags).bind fun r93 =>
 bif (!decide (a1.Temp = 2)) then
 some (ref36_Got.mk (api_Point.mk a1.Name a1.Attrs a1.Kind a1.Temp a1.Mono c69 a1.Time a1.Int_ a1.Re a1.Im a1.Hist r93) 0)
 else
 lett (decide (a1.Kind = 1)) fun t142 =>
 bif t142 then
 (ref15_Wide a0.Int_ a1.Int_ false).bind fun r146 =>
 bif r146 then
 some (ref36_Got.mk (api_Point.mk [] [] 0 0 false 0 0 0 0 0 (api_Hist.mk 0 0 (api_Side.mk 0 []) (api_Side.mk 0 [])) 0) 4)
 else
 lett (w64 (a0.Int_ + a1.Int_)) fun t168 =>
 some (ref36_Got.mk (api_Point.mk a1.Name a1.Attrs a1.Kind a1.Temp a1.Mono c69 a1.Time t168 a1.Re a1.Im a1.Hist r93) 0)
 else
 lett (decide (a1.Kind = 2)) fun t214 =>
 bif t214 then
 (ref05_Add a0.Re a1.Re).bind fun r218 =>
 (bif a1.Mono then
 (ref05_Finite r218).bind fun r240 =>
 some (!r240)
 else
 some false : Option Bool).bind fun x233 =>
 bif x233 then
 some (ref36_Got.mk (api_Point.mk [] [] 0 0 false 0 0 0 0 0 (api_Hist.mk 0 0 (api_Side.mk 0 []) (api_Side.mk 0 [])) 0) 11)
 else
 some (ref36_Got.mk (api_Point.mk a1.Name a1.Attrs a1.Kind a1.Temp a1.Mono c69 a1.Time a1.Int_ r218 a1.Im a1.Hist r93) 0)
 else
 lett (decide (a1.Kind = 4)) fun t308 =>
 bif t308 then
 (ref16_Together a0.Hist a1.Hist 160).bind fun (r342, r343) =>
 bif (!r343) then
 some (ref36_Got.mk (api_Point.mk [] [] 0 0 false 0 0 0 0 0 (api_Hist.mk 0 0 (api_Side.mk 0 []) (api_Side.mk 0 [])) 0) 4)
 else
 some (ref36_Got.mk (api_Point.mk a1.Name a1.Attrs a1.Kind a1.Temp a1.Mono c69 a1.Time a1.Int_ a1.Re a1.Im r342 r93) 0)
 else
 lett (decide (a1.Kind = 5)) fun t439 =>
 bif t439 then
 (ref05_Add a0.Re a1.Re).bind fun r443 =>
 (ref05_Add a0.Im a1.Im).bind fun r460 =>
 some (ref36_Got.mk (api_Point.mk a1.Name a1.Attrs a1.Kind a1.Temp a1.Mono c69 a1.Time a1.Int_ r443 r460 a1.Hist r93) 0)
 else
 some (ref36_Got.mk (api_Point.mk a1.Name a1.Attrs a1.Kind a1.Temp a1.Mono c69 a1.Time a1.Int_ a1.Re a1.Im a1.Hist r93) 0)
noncomputable def ref36_Roll_lp1 (a0 : List api_Point) (a1 : Int) : (List api_Point × Int) → Option (Rnd (List api_Point × Int) (List api_Point) ref36_Rolled) := fun (out22, i25) =>
 bif decide (i25 < (a0.length : Int)) then
 flow ((idx a0 i25).bind fun e52 =>
 (ref12_Check e52).bind fun r70 =>
 bif (!decide (r70 = 0)) then
 outs (outr (some (ref36_Rolled.mk [] i25 r70)))
 else
 flow (bif decide (0 < i25) then
 (idx a0 (w64 (i25 - 1))).bind fun e94 =>
 (idx a0 i25).bind fun e114 =>
 (ref36_behind e94 e114).bind fun r132 =>
 bif (!decide (r132 = 0)) then
 outs (outs (outr (some (ref36_Rolled.mk [] i25 r132))))
 else
 some (.go ())
 else
 some (.go ())) fun (_ : Unit) =>
 lett ((out22.length : Int)) fun nv152 =>
 (bif decide (0 < nv152) then
 (idx out22 (w64 (nv152 - 1))).bind fun e178 =>
 chk ((!decide (a1 = 0))) <|
 (idx a0 i25).bind fun e218 =>
 chk ((!decide (a1 = 0))) <|
 some (decide (w64 (e178.Time.tdiv a1) = w64 (e218.Time.tdiv a1)))
 else
 some false).bind fun x164 =>
 bif x164 then
 (idx out22 (w64 (nv152 - 1))).bind fun e277 =>
 (idx a0 i25).bind fun e308 =>
 ((ref36_together e277 e308).bind fun r369 =>
 some (r369.P.Name, r369.P.Attrs, r369.P.Kind, r369.P.Temp, r369.P.Mono, r369.P.Start, r369.P.Time, r369.P.Int_, r369.P.Re, r369.P.Im, r369.P.Hist.Scale, r369.P.Hist.Zero, r369.P.Hist.Pos.Offset, r369.P.Hist.Pos.Counts, r369.P.Hist.Neg.Offset, r369.P.Hist.Neg.Counts, r369.P.Flags, r369.E)).bind fun (x339, x340, x343, x344, x345, x346, x347, x348, x349, x350, x351, x352, x353, x354, x357, x358, x361, x362) =>
 bif (!decide (x362 = 0)) then
 outs (outr (some (ref36_Rolled.mk [] i25 x362)))
 else
 (slc out22 0 (w64 (nv152 - 1))).bind fun t464 =>
 (app [] t464).bind fun xs469 =>
 (app xs469 [(api_Point.mk x339 x340 x343 x344 x345 x346 x347 x348 x349 x350 (api_Hist.mk x351 x352 (api_Side.mk x353 x354) (api_Side.mk x357 x358)) x361)]).bind fun xs488 =>
 some (.go xs488)
 else
 (idx a0 i25).bind fun e498 =>
 (app out22 [e498]).bind fun xs536 =>
 some (.go xs536) : Option (Flow (List api_Point) (Rnd (List api_Point × Int) (List api_Point) ref36_Rolled))) fun out44 =>
 lett (w64 (i25 + 1)) fun i547 =>
 some (.next (out44, i547))
 else
 some (.brk out22)
noncomputable def ref36_Roll (a0 : List api_Point) (a1 : Int) : Option ref36_Rolled :=
 bif decide (a1 < 1) then
 some (ref36_Rolled.mk [] 0 1)
 else
 flow (loop (ref36_Roll_lp1 a0 a1) ([], 0)) fun out29 =>
 some (ref36_Rolled.mk out29 0 0)
noncomputable def ref12_SameAll_lp1 (a0 : List api_Point) (a1 : List api_Point) : Int → Option (Rnd Int Unit Bool) := fun i15 =>
 bif decide (i15 < (a0.length : Int)) then
 (idx a0 i15).bind fun e32 =>
 (idx a1 i15).bind fun e51 =>
 (ref12_Same e32 e51).bind fun r71 =>
 bif (!r71) then
 outr (some false)
 else
 lett (w64 (i15 + 1)) fun i82 =>
 some (.next i82)
 else
 some (.brk ())
noncomputable def ref12_SameAll (a0 : List api_Point) (a1 : List api_Point) : Option Bool :=
 bif (!decide ((a0.length : Int) = (a1.length : Int))) then
 some false
 else
 flow (loop (ref12_SameAll_lp1 a0 a1) 0) fun (_ : Unit) =>
 some true
noncomputable def law36_RollupRolls (a0 : List api_Point) (a1 : Int) : Option Bool :=
 (law36_awake).bind fun r12 =>
 bif (!r12) then
 some false
 else
 (ref12_Some a0 20).bind fun r24 =>
 bif (!r24) then
 some true
 else
 (rollup_Roll a0 a1).bind fun (r36, r37, r38) =>
 (ref36_Roll a0 a1).bind fun r51 =>
 (ref12_SameAll r36 r51.L).bind fun r80 =>
 lett (((r80 && (decide (r37 = r51.At))) && (decide (r38 = r51.E)))) fun t93 =>
 some t93
end Go.Lg
namespace Go.Lg
attribute [local irreducible] w64 toU64 toU8 shlU shrU shlB shrB
/-- where one goes among others, looked for from behind -/
def posK (out : List api_Pair) (x : api_Pair) : Nat → Nat
  | 0 => 0
  | k + 1 => if sLess x.Key (out.getD k P0).Key = true then posK out x k else k + 1
theorem posK_le (out : List api_Pair) (x : api_Pair) : ∀ k, posK out x k ≤ k
  | 0 => Nat.le_refl _
  | k + 1 => by
    unfold posK
    split
    · exact Nat.le_succ_of_le (posK_le out x k)
    · exact Nat.le_refl _
def insK (out : List api_Pair) (x : api_Pair) : List api_Pair := out.take (posK out x out.length) ++ x :: out.drop (posK out x out.length)
theorem insK_length (out : List api_Pair) (x : api_Pair) : (insK out x).length = out.length + 1 := by
  have := posK_le out x out.length
  simp only [insK, List.length_append, List.length_take, List.length_cons, List.length_drop]; omega
theorem insK_mem {out : List api_Pair} {x y : api_Pair} (h : y ∈ insK out x) : y = x ∨ y ∈ out := by
  unfold insK at h
  rcases List.mem_append.1 h with h | h
  · exact .inr (List.mem_of_mem_take h)
  · rcases List.mem_cons.1 h with h | h
    · exact .inl h
    · exact .inr (List.mem_of_mem_drop h)
def srt (l : List api_Pair) : List api_Pair := l.foldl insK []
theorem foldK_mem {y : api_Pair} : ∀ (l out : List api_Pair), y ∈ l.foldl insK out → y ∈ l ∨ y ∈ out
  | [], _, h => .inr h
  | x :: l, out, h => by
    rcases foldK_mem l (insK out x) h with h | h
    · exact .inl (List.mem_cons_of_mem _ h)
    · rcases insK_mem h with h | h
      · exact .inl (h ▸ List.mem_cons_self ..)
      · exact .inr h
theorem foldK_length : ∀ (l out : List api_Pair), (l.foldl insK out).length = l.length + out.length
  | [], out => by simp
  | x :: l, out => by
    rw [List.foldl_cons, foldK_length l, insK_length, List.length_cons]; omega
theorem srt_mem {l : List api_Pair} {y : api_Pair} (h : y ∈ srt l) : y ∈ l := by
  rcases foldK_mem l [] h with h | h
  · exact h
  · cases h
theorem srt_length (l : List api_Pair) : (srt l).length = l.length := by
  have := foldK_length l []
  simpa [srt] using this
theorem rsorted_lp2 (a0 out : List api_Pair) (i : Nat) (hi : i < a0.length) : ∀ k : Nat, k ≤ out.length → k ≤ 1000 → loop (ref11_Sorted_lp2 a0 out (i : Int)) (k : Int) = some (.go ((posK out a0[i] k : Nat) : Int))
  | 0, h, _ => loop_brk (by unfold ref11_Sorted_lp2; rw [bifFd (by omega), bind_some, cond_false]; rfl)
  | k + 1, h, hk => by
    have h1 : w64 (((k + 1 : Nat) : Int) - 1) = (k : Int) := by rw [w64_id] <;> omega
    have hk2 : k < out.length := by omega
    have hg : out.getD k P0 = out[k] := by simp [List.getD, hk2]
    cases hc : sLess a0[i].Key out[k].Key with
    | true =>
      have hp : posK out a0[i] (k + 1) = posK out a0[i] k := by
        rw [posK, hg, if_pos hc]
      rw [hp, ← rsorted_lp2 a0 out i hi k (by omega) (by omega)]
      refine loop_next ?_
      unfold ref11_Sorted_lp2
      rw [bifTd (by omega), h1, idx_nat hk2, bind_some, idx_nat hi, bind_some, bind_some, hc, cond_true, lett_eq]
    | false =>
      have hp : posK out a0[i] (k + 1) = k + 1 := by
        rw [posK, hg, if_neg (by rw [hc]; decide)]
      rw [hp]
      refine loop_brk ?_
      unfold ref11_Sorted_lp2
      rw [bifTd (by omega), h1, idx_nat hk2, bind_some, idx_nat hi, bind_some, bind_some, hc, cond_false]
theorem rsorted_lp1 (a0 : List api_Pair) (hl : a0.length ≤ 100) : ∀ (m i : Nat) (out : List api_Pair), i + m = a0.length → out.length = i → loop (ref11_Sorted_lp1 a0) (out, (i : Int)) = some (.go ((a0.drop i).foldl insK out))
  | 0, i, out, h, ho => by
    rw [List.drop_eq_nil_of_le (by omega)]
    exact loop_brk (by unfold ref11_Sorted_lp1; dsimp only; rw [bifFd (by omega)]; rfl)
  | m + 1, i, out, h, ho => by
    have hi : i < a0.length := by omega
    have j1 := posK_le out a0[i] out.length
    have j2 := rsorted_lp2 a0 out i hi out.length (Nat.le_refl _) (by omega)
    rw [List.drop_eq_getElem_cons hi, List.foldl_cons, ← rsorted_lp1 a0 hl m (i + 1) (insK out a0[i]) (by omega) (by rw [insK_length]; omega)]
    refine loop_next ?_
    unfold ref11_Sorted_lp1
    dsimp only
    have hsl : slc out 0 ((posK out a0[i] out.length : Nat) : Int) = some (out.take (posK out a0[i] out.length)) := by rw [show (0 : Int) = ((0 : Nat) : Int) from rfl, slc_nat (by omega) j1, List.drop_zero]
    have hs2 : slc out ((posK out a0[i] out.length : Nat) : Int) (out.length : Int) = some (out.drop (posK out a0[i] out.length)) := by rw [slc_nat j1 (Nat.le_refl _), List.take_length]
    rw [bifTd (by omega), lett_eq, j2, flow_go, bind_some, hsl, bind_some, app_ok (by simp only [List.length_nil, List.length_take]; omega), bind_some, List.nil_append, idx_nat hi, bind_some, app_ok (by simp only [List.length_take, List.length_cons, List.length_nil]; omega), bind_some, hs2, bind_some,
      app_ok (by simp only [List.length_append, List.length_take, List.length_drop, List.length_cons, List.length_nil]; omega), bind_some, lett_eq, w64_succ (by omega), insK, List.append_assoc, List.singleton_append]
theorem rsorted_eq (a0 : List api_Pair) (hl : a0.length ≤ 100) : ref11_Sorted a0 = some (srt a0) := by
  have h : loop (ref11_Sorted_lp1 a0) ([], 0) = _ := rsorted_lp1 a0 hl a0.length 0 [] (by omega) rfl
  unfold ref11_Sorted
  rw [h, flow_go]; rfl
theorem cmp_eq (a b : List UInt8) : cmp_Compare_string a b = some (if sLess a b = true then -1 else if sLess b a = true then 1 else 0) := by
  unfold cmp_Compare_string cmp_isNaN_string
  simp only [decide_true, Bool.not_true, lett_eq, bind_some, cond_false]
  cases sLess a b <;> cases sLess b a <;> rfl
section
variable {α : Type} {A R : List α} {x y z : α} {k : Nat}
theorem idx_app0 (h : A.length = k) : idx (A ++ y :: R) (k : Int) = some y := by
  subst h
  rw [idx_nat (by simp)]; simp
theorem idx_app1 (h : A.length = k) : idx (A ++ y :: x :: R) ((k + 1 : Nat) : Int) = some x := by
  subst h
  rw [idx_nat (by simp)]; simp
theorem setI_app0 (h : A.length = k) : setI (A ++ y :: R) (k : Int) z = some (A ++ z :: R) := by
  subst h
  rw [setI_nat (by simp)]; simp
theorem setI_app1 (h : A.length = k) : setI (A ++ y :: x :: R) ((k + 1 : Nat) : Int) z = some (A ++ y :: z :: R) := by
  subst h
  rw [setI_nat (by simp)]; simp
end
theorem isort_lp5 (out rest : List api_Pair) (x : api_Pair) (hl : out.length ≤ 1000) : ∀ k : Nat, k ≤ out.length →
    loop (label_Sorted_lp5 0) (out.take k ++ x :: (out.drop k ++ rest), (k : Int)) = some (.go (out.take (posK out x k) ++ x :: (out.drop (posK out x k) ++ rest)))
  | 0, h => loop_brk (by unfold label_Sorted_lp5; dsimp only; rw [bifFd (by omega), bind_some, cond_false]; rfl)
  | k + 1, h => by
    have hk2 : k < out.length := by omega
    have h1 : w64 (((k + 1 : Nat) : Int) - 1) = (k : Int) := by rw [w64_id] <;> omega
    have hA : (out.take k).length = k := by rw [List.length_take]; omega
    have hg : out.getD k P0 = out[k] := by simp [List.getD, hk2]
    have e1 : out.take (k + 1) ++ x :: (out.drop (k + 1) ++ rest) = out.take k ++ out[k] :: x :: (out.drop (k + 1) ++ rest) := by
      rw [← List.take_append_getElem hk2, List.append_assoc]; rfl
    cases hc : sLess x.Key out[k].Key with
    | true =>
      have hp : posK out x (k + 1) = posK out x k := by
        rw [posK, hg, if_pos hc]
      rw [hp, ← isort_lp5 out rest x hl k (by omega), e1, List.drop_eq_getElem_cons hk2]
      refine loop_next ?_
      unfold label_Sorted_lp5
      dsimp only
      rw [bifTd (by omega), h1, idx_app1 hA, bind_some, idx_app0 hA, bind_some, cmp_eq, bind_some, bind_some, if_pos hc, bind_some, bifTd (by decide), bind_some, bind_some, bind_some, bind_some, setI_app1 hA, bind_some, idx_app0 hA, bind_some, setI_app0 hA, bind_some, lett_eq]
      rfl
    | false =>
      have hp : posK out x (k + 1) = k + 1 := by
        rw [posK, hg, if_neg (by rw [hc]; decide)]
      rw [hp, e1]
      refine loop_brk ?_
      unfold label_Sorted_lp5
      dsimp only
      have hn : ¬ ((if sLess x.Key out[k].Key = true then (-1 : Int) else if sLess out[k].Key x.Key = true then 1 else 0) < 0) := by
        rw [hc, if_neg (by decide)]; split <;> decide
      rw [bifTd (by omega), h1, idx_app1 hA, bind_some, idx_app0 hA, bind_some, cmp_eq, bind_some, bind_some, bind_some, bifFd hn]
theorem isort_lp4 (l : List api_Pair) (hl : l.length ≤ 100) : ∀ (m i : Nat) (out : List api_Pair), i + m = l.length → out.length = i → loop (label_Sorted_lp4 l 0) (out ++ l.drop i, (i : Int)) = some (.go ((l.drop i).foldl insK out))
  | 0, i, out, h, ho => by
    rw [List.drop_eq_nil_of_le (by omega), List.append_nil]
    exact loop_brk (by unfold label_Sorted_lp4; dsimp only; rw [bifFd (by omega)]; rfl)
  | m + 1, i, out, h, ho => by
    have hi : i < l.length := by omega
    have h5 := isort_lp5 out (l.drop (i + 1)) l[i] (by omega) i (by omega)
    rw [List.take_of_length_le (by omega), List.drop_eq_nil_of_le (Nat.le_of_eq ho), List.nil_append] at h5
    have hq : posK out l[i] out.length = posK out l[i] i := by rw [ho]
    rw [List.drop_eq_getElem_cons hi, List.foldl_cons, ← isort_lp4 l hl m (i + 1) (insK out l[i]) (by omega) (by rw [insK_length]; omega)]
    refine loop_next ?_
    unfold label_Sorted_lp4
    dsimp only
    rw [bifTd (by omega), h5, flow_go, bind_some, lett_eq, w64_succ (by omega), insK, hq, List.append_assoc, List.cons_append]
theorem sorted_eq (l : List api_Pair) (hl : l.length < 20) : label_Sorted l = some (srt l) := by
  have h4 : loop (label_Sorted_lp4 l 0) (l, 1) = some (.go (srt l)) := by
    cases l with
    | nil => exact loop_brk (by unfold label_Sorted_lp4; dsimp only; rw [bifFd (by simp)]; rfl)
    | cons x l => exact isort_lp4 (x :: l) (by omega) l.length 1 [x] (by rw [List.length_cons]; omega) rfl
  unfold label_Sorted slices_Clone_api_Pair_api_Pair
  rw [app_ok (by simp only [List.length_nil]; omega), bind_some, List.nil_append]
  have h1 : loop (label_Sorted_lp1 l) (l, 0, 20) = some (.go (l, 0)) := loop_brk (by unfold label_Sorted_lp1; dsimp only; rw [bifFd (by omega)])
  have h6 : loop (label_Sorted_lp6 l) 20 = some (.go ()) := loop_brk (by unfold label_Sorted_lp6; rw [bifFd (by omega)])
  rw [h1, flow_go, bind_some]
  dsimp only
  rw [lett_eq, show w64 (0 + 1) = 1 by rw [w64_id] <;> omega, h4, flow_go, bind_some, h6, flow_go, bind_some, bind_some]
end Go.Lg
namespace Go.Lg
attribute [local irreducible] w64 toU64 toU8 shlU shrU shlB shrB
theorem firstE_pair {l : List api_Pair} {n i : Nat} (h : (firstE (pairE l) n i).getD 0 = 0) : firstE (pairE l) n i = none := by
  by_cases hn : firstE (pairE l) n i = none
  · exact hn
  · obtain ⟨j, _, _, h3, h4⟩ := first_ex n i hn
    rw [h3] at h
    unfold pairE at h h4
    split at h
    · split at h
      · cases h
      · rename_i h1 h2
        rw [if_pos h1, if_neg h2] at h4
        exact absurd rfl h4
    · cases h
theorem nameOk_len {l : List UInt8} (h : nameOk l = true) : l.length ≤ 32 := by
  unfold nameOk at h
  simp only [Bool.and_eq_true, decide_eq_true_eq] at h
  exact h.1.1.2
theorem valueOk_len {l : List UInt8} (h : valueOk l = true) : l.length ≤ 32 := by
  unfold valueOk at h
  simp only [Bool.and_eq_true, decide_eq_true_eq] at h
  exact h.1.2
theorem label_lens {n : List UInt8} {l : List api_Pair} (h : labelE n l = 0) : n.length ≤ 32 ∧ l.length ≤ 4 ∧ ∀ p ∈ l, p.Key.length ≤ 32 ∧ p.Val.length ≤ 32 := by
  unfold labelE at h
  split at h
  · cases h
  · rename_i h1
    split at h
    · cases h
    · rename_i h2
      refine ⟨nameOk_len (by simpa using h1), by omega, fun p hp => ?_⟩
      have h3 := (firstE_none _ _).1 (firstE_pair h)
      obtain ⟨j, hj, rfl⟩ := List.getElem_of_mem hp
      have h4 := h3 j (Nat.zero_le _) (by omega)
      unfold pairE at h4
      have hg : l.getD j P0 = l[j] := by simp [List.getD, hj]
      rw [hg] at h4
      split at h4
      · rename_i h5
        simp only [Bool.and_eq_true] at h5
        exact ⟨nameOk_len h5.1, valueOk_len h5.2⟩
      · cases h4
def addP (s : List UInt8) (p : api_Pair) : List UInt8 := s ++ (59 :: (p.Key ++ 61 :: p.Val))
def textL (n : List UInt8) (l : List api_Pair) : List UInt8 := (srt l).foldl addP n
theorem addP_len {s : List UInt8} {p : api_Pair} (hk : p.Key.length ≤ 32 ∧ p.Val.length ≤ 32) : (addP s p).length ≤ s.length + 66 := by
  simp only [addP, List.length_append, List.length_cons]; omega
theorem rtext_lp (r : List api_Pair) (hl : r.length ≤ 100) (hr : ∀ p ∈ r, p.Key.length ≤ 32 ∧ p.Val.length ≤ 32) : ∀ (m i : Nat) (s : List UInt8), i + m = r.length → s.length ≤ 32 + 66 * i →
    loop (ref11_Text_lp1 r) (s, (i : Int)) = some (.go ((r.drop i).foldl addP s))
  | 0, i, s, h, hs => by
    rw [List.drop_eq_nil_of_le (by omega)]
    exact loop_brk (by unfold ref11_Text_lp1; dsimp only; rw [bifFd (by omega)]; rfl)
  | m + 1, i, s, h, hs => by
    have hi : i < r.length := by omega
    have hk := hr r[i] (List.getElem_mem hi)
    have ha := addP_len (s := s) hk
    rw [List.drop_eq_getElem_cons hi, List.foldl_cons, ← rtext_lp r hl hr m (i + 1) (addP s r[i]) (by omega) (by omega)]
    refine loop_next ?_
    unfold ref11_Text_lp1
    dsimp only
    rw [bifTd (by omega), app_ok (by simp only [List.length_cons, List.length_nil]; omega), bind_some, idx_nat hi, bind_some, app_ok (by simp only [List.length_append, List.length_cons, List.length_nil]; omega), bind_some,
      app_ok (by simp only [List.length_append, List.length_cons, List.length_nil]; omega), bind_some, bind_some, app_ok (by simp only [List.length_append, List.length_cons, List.length_nil]; omega), bind_some, lett_eq, w64_succ (by omega)]
    simp [addP]
theorem text_lp (r : List api_Pair) (hl : r.length ≤ 100) (hr : ∀ p ∈ r, p.Key.length ≤ 32 ∧ p.Val.length ≤ 32) : ∀ (m i : Nat) (s : List UInt8), i + m = r.length → s.length ≤ 32 + 66 * i →
    loop (label_Text_lp1 r) (s, (i : Int)) = some (.go ((r.drop i).foldl addP s))
  | 0, i, s, h, hs => by
    rw [List.drop_eq_nil_of_le (by omega)]
    exact loop_brk (by unfold label_Text_lp1; dsimp only; rw [bifFd (by omega)]; rfl)
  | m + 1, i, s, h, hs => by
    have hi : i < r.length := by omega
    have hk := hr r[i] (List.getElem_mem hi)
    have ha := addP_len (s := s) hk
    rw [List.drop_eq_getElem_cons hi, List.foldl_cons, ← text_lp r hl hr m (i + 1) (addP s r[i]) (by omega) (by omega)]
    refine loop_next ?_
    unfold label_Text_lp1
    dsimp only
    rw [bifTd (by omega), idx_nat hi, bind_some, app_ok (by simp only [List.length_cons, List.length_nil]; omega), bind_some, app_ok (by simp only [List.length_append, List.length_cons, List.length_nil]; omega), bind_some,
      app_ok (by simp only [List.length_append, List.length_cons, List.length_nil]; omega), bind_some, bind_some, app_ok (by simp only [List.length_append, List.length_cons, List.length_nil]; omega), bind_some, lett_eq, bind_some]
    dsimp only
    rw [w64_succ (by omega)]
    simp [addP]
theorem text_eq (n : List UInt8) (l : List api_Pair) : label_Text n l = some (if labelE n l = 0 then (textL n l, 0) else ([], labelE n l)) := by
  unfold label_Text
  rw [label_eq, bind_some]
  by_cases h : labelE n l = 0
  · obtain ⟨h1, h2, h3⟩ := label_lens h
    have hs := sorted_eq l (by omega)
    have hr : ∀ p ∈ srt l, p.Key.length ≤ 32 ∧ p.Val.length ≤ 32 := fun p hp => h3 p (srt_mem hp)
    have hlp : loop (label_Text_lp1 (srt l)) (n, 0) = _ := text_lp (srt l) (by rw [srt_length]; omega) hr (srt l).length 0 n (by omega) (by omega)
    rw [if_pos h, h, bifF (by decide), bind_some, app_ok (by simp only [List.length_nil]; omega), bind_some, lett_eq, bind_some, List.nil_append]
    dsimp only
    rw [hs, bind_some, hlp, flow_go, bind_some]; rfl
  · rw [if_neg h, bifT (by simp [h])]
theorem rtext_eq (n : List UInt8) (l : List api_Pair) : ref11_Text n l = some (if labelE n l = 0 then (textL n l, 0) else ([], labelE n l)) := by
  unfold ref11_Text
  rw [rlabel_eq, bind_some]
  by_cases h : labelE n l = 0
  · obtain ⟨h1, h2, h3⟩ := label_lens h
    have hs := rsorted_eq l (by omega)
    have hr : ∀ p ∈ srt l, p.Key.length ≤ 32 ∧ p.Val.length ≤ 32 := fun p hp => h3 p (srt_mem hp)
    have hlp : loop (ref11_Text_lp1 (srt l)) (n, 0) = _ := rtext_lp (srt l) (by rw [srt_length]; omega) hr (srt l).length 0 n (by omega) (by omega)
    rw [if_pos h, h, bifF (by decide), hs, bind_some, hlp, flow_go]; rfl
  · rw [if_neg h, bifT (by simp [h])]
theorem foldP_len : ∀ (l : List api_Pair) (s : List UInt8), (∀ p ∈ l, p.Key.length ≤ 32 ∧ p.Val.length ≤ 32) → (l.foldl addP s).length ≤ s.length + 66 * l.length
  | [], s, _ => by simp
  | p :: l, s, h => by
    have h1 := foldP_len l (addP s p) fun q hq => h q (List.mem_cons_of_mem _ hq)
    have h2 := addP_len (s := s) (h p (List.mem_cons_self ..))
    rw [List.foldl_cons, List.length_cons]; omega
theorem textL_len {n : List UInt8} {l : List api_Pair} (h : labelE n l = 0) : (textL n l).length ≤ 1000 := by
  obtain ⟨h1, h2, h3⟩ := label_lens h
  have := foldP_len (srt l) n fun p hp => h3 p (srt_mem hp)
  rw [srt_length] at this
  unfold textL; omega
def dig (n : Int) : UInt8 := toU8 (w64 (48 + n))
def one01 (b : Bool) : Int := if b = true then 1 else 0
/-- a point's key -/
def keyT (p : api_Point) : List UInt8 := textL p.Name p.Attrs ++ [32, dig p.Kind, dig p.Temp, dig (one01 p.Mono)]
def keyE (p : api_Point) : List UInt8 × Int := if chkE p = 0 then (keyT p, 0) else ([], chkE p)
theorem bit_eq (b : Bool) : point_bit b = some (one01 b) := by cases b <;> rfl
theorem one_eq (b : Bool) : ref12_one b = some (one01 b) := by cases b <;> rfl
theorem digit_eq (n : Int) : ref12_digit n = some [dig n] := rfl
theorem chk_label {p : api_Point} (h : chkE p = 0) : labelE p.Name p.Attrs = 0 := by
  unfold chkE at h
  split at h
  · rename_i h1; exact absurd h h1
  · rename_i h1; exact Decidable.not_not.1 h1
theorem key_eq {p : api_Point} (o : OkH p.Hist) : point_Key p = some (keyE p) := by
  unfold point_Key keyE
  rw [chk_eq o, bind_some]
  by_cases h : chkE p = 0
  · have hl := chk_label h
    have hn := textL_len hl
    rw [if_pos h, h, bifF (by decide), text_eq, if_pos hl, bind_some]
    dsimp only
    rw [app_ok (by simp only [List.length_cons, List.length_nil]; omega), bind_some, bit_eq, bind_some, app_ok (by simp only [List.length_append, List.length_cons, List.length_nil]; omega), bind_some, List.append_assoc]
    rfl
  · rw [if_neg h, bifT (by simp [h])]
theorem rkey_eq {p : api_Point} (o : OkH p.Hist) : ref12_Key p = some (keyE p) := by
  unfold ref12_Key keyE
  rw [rchk_eq o, bind_some]
  by_cases h : chkE p = 0
  · have hl := chk_label h
    have hn := textL_len hl
    rw [if_pos h, h, bifF (by decide), rtext_eq, if_pos hl, bind_some]
    dsimp only
    rw [app_ok (by simp only [List.length_cons, List.length_nil]; omega), bind_some, digit_eq, bind_some, app_ok (by simp only [List.length_append, List.length_cons, List.length_nil]; omega), bind_some, digit_eq, bind_some,
      app_ok (by simp only [List.length_append, List.length_cons, List.length_nil]; omega), bind_some, one_eq, bind_some, digit_eq, bind_some, app_ok (by simp only [List.length_append, List.length_cons, List.length_nil]; omega), bind_some]
    simp [keyT]
  · rw [if_neg h, bifT (by simp [h])]
/-- why two points can't stand one behind the other -/
def fitsE (a b : api_Point) : Int := if (keyE a).1 ≠ (keyE b).1 then 14 else if b.Time ≤ a.Time then 9 else if a.Temp = 2 ∧ b.Start < a.Time then 10 else 0
theorem fitsR_eq {a b : api_Point} (oa : OkH a.Hist) (ob : OkH b.Hist) : rollup_fits a b = some (fitsE a b) := by
  unfold rollup_fits fitsE
  rw [key_eq oa, key_eq ob]
  generalize keyE a = ka
  generalize keyE b = kb
  obtain ⟨ka1, ka2⟩ := ka
  obtain ⟨kb1, kb2⟩ := kb
  simp only [bind_some]
  rw [lett_eq]
  by_cases h1 : ka1 = kb1
  · rw [bifF (by simp [h1]), lett_eq, if_neg (by simp [h1])]
    by_cases h2 : b.Time ≤ a.Time
    · rw [bifTd h2, if_pos h2]
    · rw [bifFd h2, if_neg h2, lett_eq]
      by_cases h3 : a.Temp = 2 ∧ b.Start < a.Time
      · rw [bifT (by simp [h3.1, h3.2]), if_pos h3]
      · rw [bifF (by simpa using h3), if_neg h3]
  · rw [bifT (by simp [h1]), if_pos h1]
theorem behind_eq {a b : api_Point} (oa : OkH a.Hist) (ob : OkH b.Hist) : ref36_behind a b = some (fitsE a b) := by
  unfold ref36_behind fitsE
  rw [rkey_eq oa, rkey_eq ob]
  generalize keyE a = ka
  generalize keyE b = kb
  obtain ⟨ka1, ka2⟩ := ka
  obtain ⟨kb1, kb2⟩ := kb
  simp only [bind_some]
  by_cases h1 : ka1 = kb1
  · rw [bifF (by simp [h1]), if_neg (by simp [h1])]
    by_cases h2 : b.Time ≤ a.Time
    · rw [bifTd h2, if_pos h2]
    · rw [bifFd h2, if_neg h2]
      by_cases h3 : a.Temp = 2 ∧ b.Start < a.Time
      · rw [bifT (by simp [h3.1, h3.2]), if_pos h3]
      · rw [bifF (by simpa using h3), if_neg h3]
  · rw [bifT (by simp [h1]), if_pos h1]
end Go.Lg
namespace Go.Lg
attribute [local irreducible] w64 toU64 toU8 shlU shrU shlB shrB
/-! ### flags -/
def fb (a b bit : Int) : Int := if a / bit % 2 = 1 ∨ b / bit % 2 = 1 then bit else 0
theorem fb_le {a b bit : Int} (h : 0 ≤ bit) : 0 ≤ fb a b bit ∧ fb a b bit ≤ bit := by unfold fb; split <;> omega
theorem w64_bit {a bit : Int} (ha : 0 ≤ a) (ha' : a ≤ 31) (h1 : 1 ≤ bit) : (w64 (a.tdiv bit)).tmod 2 = a / bit % 2 := by
  have h0 : 0 ≤ a / bit := Int.ediv_nonneg ha (by omega)
  have h2 : a / bit ≤ a := Int.ediv_le_self _ ha
  rw [Int.tdiv_eq_ediv_of_nonneg ha, w64_id (by omega) (by omega), Int.tmod_eq_emod_of_nonneg h0]
theorem flag_round {a b out bit nb : Int} (e2 : 2 * bit = nb) (ha : 0 ≤ a) (ha' : a ≤ 31) (hb : 0 ≤ b) (hb' : b ≤ 31) (h1 : 1 ≤ bit) (h2 : bit ≤ 16) (ho : 0 ≤ out) (ho' : out ≤ 1000) :
    ref36_flags_lp1 a b (out, bit) = some (.next (out + fb a b bit, nb)) := by
  unfold ref36_flags_lp1 fb
  dsimp only
  have hn : (!decide (bit = 0)) = true := by simp; omega
  have e2 : w64 (2 * bit) = nb := by rw [w64_id (by omega) (by omega), e2]
  rw [bifTd h2, hn, chk_true, w64_bit ha ha' h1, chk_true, w64_bit hb hb' h1]
  by_cases hA : a / bit % 2 = 1
  · rw [bifTd hA, bind_some, bifT rfl, lett_eq, bind_some, lett_eq, e2, w64_id (by omega) (by omega), if_pos (.inl hA)]
  · rw [bifFd hA, bind_some]
    by_cases hB : b / bit % 2 = 1
    · rw [bifTd hB, lett_eq, bind_some, lett_eq, e2, w64_id (by omega) (by omega), if_pos (.inr hB)]
    · rw [bifFd hB, bind_some, lett_eq, e2, if_neg (fun h => h.elim hA hB), Int.add_zero]
theorem fb_or : ∀ m n : Fin 32, 0 + fb m.val n.val 1 + fb m.val n.val 2 + fb m.val n.val 4 + fb m.val n.val 8 + fb m.val n.val 16 = orI m.val n.val ∧ 0 ≤ orI m.val n.val ∧ orI m.val n.val ≤ 31 := by decide +kernel
theorem or_le {a b : Int} (ha : 0 ≤ a ∧ a ≤ 31) (hb : 0 ≤ b ∧ b ≤ 31) : 0 + fb a b 1 + fb a b 2 + fb a b 4 + fb a b 8 + fb a b 16 = orI a b ∧ 0 ≤ orI a b ∧ orI a b ≤ 31 := by
  have h := fb_or ⟨a.toNat, by omega⟩ ⟨b.toNat, by omega⟩
  have e1 : (a.toNat : Int) = a := by omega
  have e2 : (b.toNat : Int) = b := by omega
  simp only [e1, e2] at h
  exact h
theorem flags_eq {a b : Int} (ha : 0 ≤ a ∧ a ≤ 31) (hb : 0 ≤ b ∧ b ≤ 31) : ref36_flags a b = some (orI a b) := by
  unfold ref36_flags
  have q := fun (bit : Int) (h : 0 ≤ bit) => fb_le (a := a) (b := b) h
  have q1 := q 1 (by decide)
  have q2 := q 2 (by decide)
  have q4 := q 4 (by decide)
  have q8 := q 8 (by decide)
  have q16 := q 16 (by decide)
  rw [loop_next (flag_round (nb := 2) (by decide) ha.1 ha.2 hb.1 hb.2 (by decide) (by decide) (by decide) (by decide)), loop_next (flag_round (nb := 4) (by decide) ha.1 ha.2 hb.1 hb.2 (by decide) (by decide) (by omega) (by omega)), loop_next (flag_round (nb := 8) (by decide) ha.1 ha.2 hb.1 hb.2 (by decide) (by decide) (by omega) (by omega)),
    loop_next (flag_round (nb := 16) (by decide) ha.1 ha.2 hb.1 hb.2 (by decide) (by decide) (by omega) (by omega)), loop_next (flag_round (nb := 32) (by decide) ha.1 ha.2 hb.1 hb.2 (by decide) (by decide) (by omega) (by omega)),
    loop_brk (b := 0 + fb a b 1 + fb a b 2 + fb a b 4 + fb a b 8 + fb a b 16) (by unfold ref36_flags_lp1; dsimp only; rw [bifFd (by decide)]), flow_go]
  exact congrArg some (or_le ha hb).1
/-! ### two points that stand one behind the other -/
structure Nbr (a b : api_Point) : Prop where
  ca : chkE a = 0
  cb : chkE b = 0
  k : a.Kind = b.Kind
  t : a.Temp = b.Temp
  m : a.Mono = b.Mono
  oa : OkH a.Hist
  ob : OkH b.Hist
  ia : I64 a.Int_
  ib : I64 b.Int_
  lb : b.Attrs.length ≤ 1000
def baseJ (a b : api_Point) : api_Point := { b with Start := if a.Kind = 3 then b.Start else a.Start, Flags := orI a.Flags b.Flags }
noncomputable def joinE (a b : api_Point) : api_Point × Int :=
  if b.Temp ≠ 2 then (baseJ a b, 0)
  else if b.Kind = 1 then (if I64 (a.Int_ + b.Int_) then ({ baseJ a b with Int_ := a.Int_ + b.Int_ }, 0) else (Pt0, 4))
  else if b.Kind = 2 then (if b.Mono = true ∧ finB (fAdd a.Re b.Re) = false then (Pt0, 11) else ({ baseJ a b with Re := fAdd a.Re b.Re }, 0))
  else if b.Kind = 4 then (if (togR a.Hist b.Hist 160).2 = false then (Pt0, 4) else ({ baseJ a b with Hist := (togR a.Hist b.Hist 160).1 }, 0))
  else ({ baseJ a b with Re := fAdd a.Re b.Re, Im := fAdd a.Im b.Im }, 0)
theorem sum_test {a b : Int} (ha : I64 a) (hb : I64 b) : (((decide (0 < b)) && (decide (w64 (a + b) < a))) || ((decide (b < 0)) && (decide (a < w64 (a + b))))) = decide (¬ I64 (a + b)) := by
  unfold I64 at *
  by_cases h : -9223372036854775808 ≤ a + b ∧ a + b ≤ 9223372036854775807
  · rw [w64_id h.1 h.2, decide_eq_false (p := ¬ _) (fun e => e h)]
    rcases Int.lt_trichotomy b 0 with hb0 | hb0 | hb0
    · rw [decide_eq_false (p := 0 < b) (by omega), decide_eq_false (p := a < a + b) (by omega)]; simp
    · subst hb0; simp
    · rw [decide_eq_false (p := b < 0) (by omega), decide_eq_false (p := a + b < a) (by omega)]; simp
  · rw [decide_eq_true (p := ¬ _) h, w64_def]
    rcases Int.lt_trichotomy b 0 with hb0 | hb0 | hb0
    · rw [decide_eq_true (p := b < 0) hb0, decide_eq_true (p := a < _) (by omega)]; simp
    · omega
    · rw [decide_eq_true (p := 0 < b) hb0, decide_eq_true (p := _ < a) (by omega)]; simp
theorem rfin_eq (a : UInt64) : num_Finite a = some (finB a) := numFinite_eq a
theorem together_E {a b : api_Point} (h : Nbr a b) : ref36_together a b = some ⟨(joinE a b).1, (joinE a b).2⟩ := by
  obtain ⟨ka, ma, ta, wa, fa, na, ga, la⟩ := chk0 h.ca
  obtain ⟨kb, mb, tb, wb, fb, nb, gb, lb⟩ := chk0 h.cb
  have hfl := flags_eq wa.2.2.2.2 wb.2.2.2.2
  have hst : (bif (!decide (b.Kind = 3)) then some a.Start else some b.Start : Option Int) = some (baseJ a b).Start := by
    unfold baseJ
    rw [h.k]
    by_cases q : b.Kind = 3
    · rw [bifF (by simp [q])]; dsimp only; rw [if_pos q]
    · rw [bifT (by simp [q])]; dsimp only; rw [if_neg q]
  unfold ref36_together joinE
  rw [hst, bind_some, hfl, bind_some]
  by_cases h2 : b.Temp = 2
  case neg => rw [bifT (by simp [h2]), if_pos h2]; rfl
  rw [bifF (by simp [h2]), if_neg (fun e => e h2), lett_eq]
  by_cases k1 : b.Kind = 1
  · rw [bifTd k1, wide_add h.ia h.ib, bind_some, if_pos k1]
    by_cases hi : I64 (a.Int_ + b.Int_)
    · rw [bifFd (fun e => e hi), lett_eq, if_pos hi, w64_id hi.1 hi.2]; rfl
    · rw [bifTd hi, if_neg hi]; rfl
  rw [bifFd k1, if_neg k1, lett_eq]
  by_cases k2 : b.Kind = 2
  · rw [bifTd k2, Add_eq, bind_some, if_pos k2]
    cases hm : b.Mono
    · rw [cond_false, bind_some, cond_false, if_neg (fun e => by cases e.1)]; simp only [baseJ, hm]
    · rw [cond_true, show ref05_Finite (fAdd a.Re b.Re) = some (finB (fAdd a.Re b.Re)) from RFin_eq _, bind_some, bind_some]
      cases hf : finB (fAdd a.Re b.Re)
      · rw [bifT (c := !false) rfl, if_pos ⟨rfl, rfl⟩]; rfl
      · rw [bifF (c := !true) rfl, if_neg (fun e => by cases e.2)]; simp only [baseJ, hm]
  rw [bifFd k2, if_neg k2, lett_eq]
  by_cases k4 : b.Kind = 4
  · rw [bifTd k4, (togR_eq h.oa h.ob 160).2.1, if_pos k4, bind_some]
    cases hr : (togR a.Hist b.Hist 160).2
    · rw [if_pos rfl]; dsimp only; rw [hr, bifT (c := !false) rfl]; rfl
    · rw [if_neg (by decide)]; dsimp only; rw [hr, bifF (c := !true) rfl]; rfl
  rw [bifFd k4, if_neg k4, lett_eq]
  have k5 : b.Kind = 5 := by rcases kb with q | q <;> omega
  rw [bifTd k5, Add_eq, bind_some, Add_eq, bind_some]; rfl
theorem join_E {a b : api_Point} (h : Nbr a b) : ∃ p, rollup_join a b = some (p, (joinE a b).2) ∧ ((joinE a b).2 = 0 → p = (joinE a b).1) := by
  obtain ⟨ka, ma, ta, wa, fa, na, ga, la⟩ := chk0 h.ca
  obtain ⟨kb, mb, tb, wb, fb, nb, gb, lb⟩ := chk0 h.cb
  have hk := h.k
  have hst : (bif decide (a.Kind = 3) then some b.Start else some a.Start : Option Int) = some (baseJ a b).Start := by
    unfold baseJ
    by_cases q : a.Kind = 3
    · rw [bifTd q]; dsimp only; rw [if_pos q]
    · rw [bifFd q]; dsimp only; rw [if_neg q]
  unfold rollup_join joinE
  rw [clone_p h.lb h.ob, bind_some, lett_eq, hst, bind_some]
  by_cases h2 : b.Temp = 2
  case neg => rw [bifT (by simp [h.t, h2]), if_pos h2]; exact ⟨_, rfl, fun _ => rfl⟩
  rw [bifF (by simp [h.t, h2]), if_neg (fun e => e h2)]
  unfold rollup_values
  dsimp only
  rw [lett_eq]
  by_cases k1 : b.Kind = 1
  · have e1 : a.Re = b.Re := by rw [wa.2.1.resolve_left (by omega), wb.2.1.resolve_left (by omega)]
    have e2 : a.Im = b.Im := by rw [wa.2.2.1.resolve_left (by omega), wb.2.2.1.resolve_left (by omega)]
    have e3 : a.Hist = b.Hist := by rw [wa.2.2.2.1.resolve_left (by omega), wb.2.2.2.1.resolve_left (by omega)]
    rw [bifTd k1, lett_eq, sum_test h.ia h.ib, if_pos k1]
    by_cases hi : I64 (a.Int_ + b.Int_)
    · rw [bifFd (fun e => e hi), if_pos hi, w64_id hi.1 hi.2, bind_some, e1, e2, e3]; exact ⟨_, rfl, fun _ => rfl⟩
    · rw [bifTd hi, if_neg hi, bind_some]; exact ⟨_, rfl, fun e => absurd e (by decide)⟩
  rw [bifFd k1, if_neg k1, lett_eq]
  have e0 : a.Int_ = b.Int_ := by rw [wa.1.resolve_left (by omega), wb.1.resolve_left (by omega)]
  by_cases k2 : b.Kind = 2
  · have e2 : a.Im = b.Im := by rw [wa.2.2.1.resolve_left (by omega), wb.2.2.1.resolve_left (by omega)]
    have e3 : a.Hist = b.Hist := by rw [wa.2.2.2.1.resolve_left (by omega), wb.2.2.2.1.resolve_left (by omega)]
    rw [bifTd k2, show num_Add a.Re b.Re = some (fAdd a.Re b.Re) from rfl, bind_some, if_pos k2, e0, e2, e3]
    cases hm : b.Mono
    · rw [cond_false, bind_some, cond_false, bind_some, if_neg (fun e => by cases e.1)]; exact ⟨_, rfl, fun _ => by simp only [baseJ, hm]⟩
    · rw [cond_true, rfin_eq, bind_some, bind_some]
      cases hf : finB (fAdd a.Re b.Re)
      · rw [bifT (c := !false) rfl, bind_some, if_pos ⟨rfl, rfl⟩]; exact ⟨_, rfl, fun e => absurd e (by decide)⟩
      · rw [bifF (c := !true) rfl, bind_some, if_neg (fun e => by cases e.2)]; exact ⟨_, rfl, fun _ => by simp only [baseJ, hm]⟩
  rw [bifFd k2, if_neg k2, lett_eq]
  by_cases k4 : b.Kind = 4
  · have e1 : a.Re = b.Re := by rw [wa.2.1.resolve_left (by omega), wb.2.1.resolve_left (by omega)]
    have e2 : a.Im = b.Im := by rw [wa.2.2.1.resolve_left (by omega), wb.2.2.1.resolve_left (by omega)]
    rw [bifFd (by omega), lett_eq, bifTd k4, (togR_eq h.oa h.ob 160).1, if_pos k4, bind_some, e0, e1, e2]
    cases hr : (togR a.Hist b.Hist 160).2
    · rw [if_pos rfl]; dsimp only; rw [bind_some]; dsimp only; rw [bifT (c := !false) rfl, bind_some]; exact ⟨_, rfl, fun e => absurd e (by decide)⟩
    · rw [if_neg (by decide)]; dsimp only; rw [bind_some]; dsimp only; rw [bifF (c := !true) rfl, bind_some]; exact ⟨_, rfl, fun _ => rfl⟩
  have k5 : b.Kind = 5 := by rcases kb with q | q <;> omega
  have e3 : a.Hist = b.Hist := by rw [wa.2.2.2.1.resolve_left (by omega), wb.2.2.2.1.resolve_left (by omega)]
  rw [bifTd k5, bind_some, show num_AddPhasor a.Re a.Im b.Re b.Im = some (fAdd a.Re b.Re, fAdd a.Im b.Im) from rfl, bind_some, if_neg k4]
  dsimp only
  rw [bind_some, e0, e3]
  exact ⟨_, rfl, fun _ => rfl⟩
end Go.Lg
namespace Go.Lg
attribute [local irreducible] w64 toU64 toU8 shlU shrU shlB shrB
def setV (p : api_Point) (i : Int) (r m : UInt64) (H : api_Hist) : api_Point := { p with Int_ := i, Re := r, Im := m, Hist := H }
/-- what the values of two points together are -/
def ValJ (a b : api_Point) (i : Int) (r m : UInt64) (H : api_Hist) : Prop :=
  (b.Temp ≠ 2 ∧ i = b.Int_ ∧ r = b.Re ∧ m = b.Im ∧ H = b.Hist) ∨
  (b.Temp = 2 ∧ ((b.Kind = 1 ∧ I64 (a.Int_ + b.Int_) ∧ i = a.Int_ + b.Int_ ∧ r = b.Re ∧ m = b.Im ∧ H = b.Hist) ∨
    (b.Kind = 2 ∧ (b.Mono = true → finB r = true) ∧ i = b.Int_ ∧ r = fAdd a.Re b.Re ∧ m = b.Im ∧ H = b.Hist) ∨
    (b.Kind = 4 ∧ i = b.Int_ ∧ r = b.Re ∧ m = b.Im ∧ Good H ∧ Comes a.Hist b.Hist H) ∨
    (b.Kind = 5 ∧ i = b.Int_ ∧ H = b.Hist)))
theorem joinE_cases {a b : api_Point} (h : Nbr a b) (he : (joinE a b).2 = 0) : ∃ i r m H, (joinE a b).1 = setV (baseJ a b) i r m H ∧ ValJ a b i r m H := by
  have kb := (chk0 h.cb).1
  unfold ValJ
  unfold joinE at he ⊢
  by_cases h2 : b.Temp = 2
  case neg =>
    rw [if_pos h2]
    exact ⟨b.Int_, b.Re, b.Im, b.Hist, rfl, .inl ⟨h2, rfl, rfl, rfl, rfl⟩⟩
  rw [if_neg (fun e => e h2)] at he ⊢
  by_cases k1 : b.Kind = 1
  · rw [if_pos k1] at he ⊢
    by_cases hi : I64 (a.Int_ + b.Int_)
    · rw [if_pos hi]
      exact ⟨a.Int_ + b.Int_, b.Re, b.Im, b.Hist, rfl, .inr ⟨h2, .inl ⟨k1, hi, rfl, rfl, rfl, rfl⟩⟩⟩
    · rw [if_neg hi] at he; exact absurd he (by decide)
  rw [if_neg k1] at he ⊢
  by_cases k2 : b.Kind = 2
  · rw [if_pos k2] at he ⊢
    by_cases hm : b.Mono = true ∧ finB (fAdd a.Re b.Re) = false
    · rw [if_pos hm] at he; exact absurd he (by decide)
    · rw [if_neg hm]
      refine ⟨b.Int_, fAdd a.Re b.Re, b.Im, b.Hist, rfl, .inr ⟨h2, .inr (.inl ⟨k2, fun q => ?_, rfl, rfl, rfl, rfl⟩)⟩⟩
      cases hf : finB (fAdd a.Re b.Re)
      · exact absurd ⟨q, hf⟩ hm
      · rfl
  rw [if_neg k2] at he ⊢
  by_cases k4 : b.Kind = 4
  · rw [if_pos k4] at he ⊢
    by_cases hr : (togR a.Hist b.Hist 160).2 = false
    · rw [if_pos hr] at he; exact absurd he (by decide)
    · rw [if_neg hr]
      refine ⟨b.Int_, b.Re, b.Im, (togR a.Hist b.Hist 160).1, rfl, .inr ⟨h2, .inr (.inr (.inl ⟨k4, rfl, rfl, rfl, ?_⟩))⟩⟩
      rcases (togR_eq h.oa h.ob 160).2.2 with q | ⟨_, _, q⟩
      · rw [q] at hr; exact absurd rfl hr
      · rcases q with q | ⟨z, q, gz, _, _, _, _, cz⟩
        · rw [q] at hr; exact absurd rfl hr
        · rw [q]; exact ⟨gz, cz⟩
  rw [if_neg k4]
  have k5 : b.Kind = 5 := by rcases kb with q | q <;> omega
  exact ⟨b.Int_, fAdd a.Re b.Re, fAdd a.Im b.Im, b.Hist, rfl, .inr ⟨h2, .inr (.inr (.inr ⟨k5, rfl, rfl⟩))⟩⟩
theorem ValJ.ok {a b : api_Point} {i : Int} {r m : UInt64} {H : api_Hist} (h : Nbr a b) (v : ValJ a b i r m H) : I64 i ∧ OkH H := by
  rcases v with ⟨_, rfl, rfl, rfl, rfl⟩ | ⟨_, ⟨_, hi, rfl, rfl, rfl, rfl⟩ | ⟨_, _, rfl, rfl, rfl, rfl⟩ | ⟨_, rfl, rfl, rfl, g, _⟩ | ⟨_, rfl, rfl⟩⟩
  · exact ⟨h.ib, h.ob⟩
  · exact ⟨hi, h.ob⟩
  · exact ⟨h.ib, h.ob⟩
  · exact ⟨h.ib, g.ok⟩
  · exact ⟨h.ib, h.ob⟩
theorem join_right {a b : api_Point} (h : Nbr a b) (ht : a.Time < b.Time) (he : (joinE a b).2 = 0) : chkE (joinE a b).1 = 0 := by
  obtain ⟨ka, ma, ta, wa, fa, na, ga, la⟩ := chk0 h.ca
  obtain ⟨kb, mb, tb, wb, fb, nb, gb, lb⟩ := chk0 h.cb
  obtain ⟨i, r, m, H, e, v⟩ := joinE_cases h he
  have hk := h.k
  have hfl := (or_le wa.2.2.2.2 wb.2.2.2.2).2
  have hT : TimeP (setV (baseJ a b) i r m H) := by
    refine ⟨⟨?_, tb.1.2⟩, ?_⟩
    · show 0 ≤ (if a.Kind = 3 then b.Start else a.Start)
      split
      · exact tb.1.1
      · exact ta.1.1
    · show (b.Kind = 3 ∧ (if a.Kind = 3 then b.Start else a.Start) = b.Time) ∨ (b.Kind ≠ 3 ∧ (if a.Kind = 3 then b.Start else a.Start) < b.Time)
      rcases tb.2 with ⟨q, q2⟩ | ⟨q, q2⟩
      · exact .inl ⟨q, by rw [if_pos (by omega)]; exact q2⟩
      · refine .inr ⟨q, ?_⟩
        rw [if_neg (by omega)]
        rcases ta.2 with ⟨r1, r2⟩ | ⟨r1, r2⟩ <;> omega
  rw [e]
  refine chk_of (p := setV (baseJ a b) i r m H) lb kb mb hT ?_ (fun hm hk2 => ?_) (fun hm => ?_) (fun hk4 => ?_)
  · -- values of its kind alone
    show (b.Kind = 1 ∨ i = 0) ∧ ((b.Kind = 2 ∨ b.Kind = 3 ∨ b.Kind = 5) ∨ r = 0) ∧ (b.Kind = 5 ∨ m = 0) ∧ (b.Kind = 4 ∨ H = H0) ∧ (0 ≤ orI a.Flags b.Flags ∧ orI a.Flags b.Flags ≤ 31)
    rcases v with ⟨_, rfl, rfl, rfl, rfl⟩ | ⟨_, ⟨q, hi, rfl, rfl, rfl, rfl⟩ | ⟨q, _, rfl, rfl, rfl, rfl⟩ | ⟨q, rfl, rfl, rfl, g, _⟩ | ⟨q, rfl, rfl⟩⟩
    · exact ⟨wb.1, wb.2.1, wb.2.2.1, wb.2.2.2.1, hfl⟩
    · exact ⟨.inl q, wb.2.1, wb.2.2.1, wb.2.2.2.1, hfl⟩
    · exact ⟨wb.1, .inl (.inl q), wb.2.2.1, wb.2.2.2.1, hfl⟩
    · exact ⟨wb.1, wb.2.1, wb.2.2.1, .inl q, hfl⟩
    · exact ⟨wb.1, .inl (.inr (.inr q)), .inl q, wb.2.2.2.1, hfl⟩
  · have hm' : b.Mono = true := hm
    have hk' : b.Kind = 2 := hk2
    show finB r = true
    rcases v with ⟨_, rfl, rfl, rfl, rfl⟩ | ⟨_, ⟨q, _⟩ | ⟨q, q2, _⟩ | ⟨q, _⟩ | ⟨q, _⟩⟩
    · exact fb hm' hk'
    · omega
    · exact q2 hm'
    · omega
    · omega
  · have hm' : b.Mono = true := hm
    show 0 ≤ i ∧ fLess r 0 = false
    have q1 := na (h.m.trans hm')
    have q2 := nb hm'
    rcases v with ⟨_, rfl, rfl, rfl, rfl⟩ | ⟨_, ⟨q, hi, rfl, rfl, rfl, rfl⟩ | ⟨q, q3, rfl, rfl, rfl, rfl⟩ | ⟨q, _⟩ | ⟨q, _⟩⟩
    · exact q2
    · exact ⟨by omega, q2.2⟩
    · refine ⟨q2.1, ?_⟩
      have f1 := of_decide_eq_true (fa (h.m.trans hm') (by omega))
      have f2 := of_decide_eq_true (fb hm' q)
      have f3 := of_decide_eq_true (q3 hm')
      exact (less0_iff f3).2 (add_ge f1 f2 ((less0_iff f1).1 q1.2) ((less0_iff f2).1 q2.2))
    · have := mb hm'; omega
    · have := mb hm'; omega
  · have hk' : b.Kind = 4 := hk4
    show Good H
    rcases v with ⟨_, rfl, rfl, rfl, rfl⟩ | ⟨_, ⟨q, _⟩ | ⟨q, q2, _⟩ | ⟨q, _, _, _, g, _⟩ | ⟨q, _⟩⟩
    · exact (good_iff _).1 (gb hk')
    · omega
    · omega
    · exact g
    · omega
/-! ### keys -/
theorem dig_inj {a b : Int} (ha : 0 ≤ a ∧ a ≤ 9) (hb : 0 ≤ b ∧ b ≤ 9) (h : dig a = dig b) : a = b := by
  have h1 : ∀ x : Int, 0 ≤ x ∧ x ≤ 9 → ((dig x).toNat : Int) = 48 + x := fun x hx => by
    unfold dig
    rw [toU8_toNat, w64_id (by omega) (by omega)]; omega
  have := congrArg (fun u : UInt8 => (u.toNat : Int)) h
  simp only [h1 a ha, h1 b hb] at this
  omega
theorem key_kind {a b : api_Point} (ca : chkE a = 0) (cb : chkE b = 0) (h : (keyE a).1 = (keyE b).1) : a.Kind = b.Kind ∧ a.Temp = b.Temp ∧ a.Mono = b.Mono := by
  have ka := (chk0 ca).1
  have kb := (chk0 cb).1
  unfold keyE keyT at h
  rw [if_pos ca, if_pos cb] at h
  have h2 := List.append_inj_right' h rfl
  simp only [List.cons.injEq, and_true, true_and] at h2
  refine ⟨dig_inj (by rcases ka with q | q <;> omega) (by rcases kb with q | q <;> omega) h2.1, dig_inj (by rcases ka with q | q <;> omega) (by rcases kb with q | q <;> omega) h2.2.1, ?_⟩
  have h3 := dig_inj (a := one01 a.Mono) (b := one01 b.Mono) (by unfold one01; split <;> decide) (by unfold one01; split <;> decide) h2.2.2
  revert h3
  cases a.Mono <;> cases b.Mono <;> decide
theorem fits0 {a b : api_Point} (h : fitsE a b = 0) : (keyE a).1 = (keyE b).1 ∧ a.Time < b.Time ∧ (a.Temp = 2 → a.Time ≤ b.Start) := by
  unfold fitsE at h
  split at h
  · exact absurd h (by decide)
  · rename_i h1
    split at h
    · exact absurd h (by decide)
    · rename_i h2
      split at h
      · exact absurd h (by decide)
      · rename_i h3
        exact ⟨Decidable.not_not.1 h1, by omega, fun q => by
          by_cases q2 : b.Start < a.Time
          · exact absurd ⟨q, q2⟩ h3
          · omega⟩
end Go.Lg
namespace Go.Lg
attribute [local irreducible] w64 toU64 toU8 shlU shrU shlB shrB
structure Pok (p : api_Point) : Prop where
  o : OkH p.Hist
  i : I64 p.Int_
  a : p.Attrs.length ≤ 100
theorem window_some {t w : Int} (ht : 0 ≤ t) (ht' : t ≤ 4503599627370496) (hw : 1 ≤ w) : rollup_Window t w = some (t / w) := by
  unfold rollup_Window
  have h0 : 0 ≤ t / w := Int.ediv_nonneg ht (by omega)
  have h2 : t / w ≤ t := Int.ediv_le_self _ ht
  rw [bifF (by simp; omega), show (!decide (w = 0)) = true by simp; omega, chk_true, lett_eq, Int.tdiv_eq_ediv_of_nonneg ht, w64_id (by omega) (by omega)]
theorem nbr_of {a b : api_Point} (oa : Pok a) (ob : Pok b) (h1 : chkE a = 0) (h2 : chkE b = 0) (h3 : fitsE a b = 0) : Nbr a b := by
  have hk := key_kind h1 h2 (fits0 h3).1
  exact ⟨h1, h2, hk.1, hk.2.1, hk.2.2, oa.o, ob.o, oa.i, ob.i, by have := ob.a; omega⟩
theorem joinE_pok {a b : api_Point} (h : Nbr a b) (ob : Pok b) (he : (joinE a b).2 = 0) : Pok (joinE a b).1 := by
  obtain ⟨i, r, m, H, e, v⟩ := joinE_cases h he
  have := v.ok h
  rw [e]
  exact ⟨this.2, this.1, ob.a⟩
theorem same_pok {p : api_Point} (o : Pok p) : ref12_Same p p = some true := sameP_self o.a o.o.pl o.o.nl
/-! ### Roll -/
/-- what a point makes of the points so far -/
noncomputable def stepE (w : Int) (acc : List api_Point) (cur prev p : api_Point) : Int ⊕ (List api_Point × api_Point) :=
  if chkE p ≠ 0 then .inl (chkE p) else if fitsE prev p ≠ 0 then .inl (fitsE prev p)
  else if cur.Time / w = p.Time / w then (if (joinE cur p).2 ≠ 0 then .inl (joinE cur p).2 else .inr (acc, (joinE cur p).1)) else .inr (acc ++ [cur], p)
structure Inv (cur prev : api_Point) : Prop where
  cc : chkE cur = 0
  cp : chkE prev = 0
  k : cur.Kind = prev.Kind
  t : cur.Temp = prev.Temp
  m : cur.Mono = prev.Mono
  ti : cur.Time = prev.Time
  key : keyT cur = keyT prev
  oc : Pok cur
  op : Pok prev
theorem Inv.self {p : api_Point} (c : chkE p = 0) (o : Pok p) : Inv p p := ⟨c, c, rfl, rfl, rfl, rfl, rfl, o, o⟩
theorem Inv.nbr {cur prev p : api_Point} (v : Inv cur prev) (op : Pok p) (h1 : chkE p = 0) (h2 : fitsE prev p = 0) : Nbr cur p := by
  have hk := key_kind v.cp h1 (fits0 h2).1
  exact ⟨v.cc, h1, v.k.trans hk.1, v.t.trans hk.2.1, v.m.trans hk.2.2, v.oc.o, op.o, v.oc.i, op.i, by have := op.a; omega⟩
theorem keyT_join {a b : api_Point} (h : Nbr a b) (he : (joinE a b).2 = 0) : keyT (joinE a b).1 = keyT b ∧ (joinE a b).1.Kind = b.Kind ∧ (joinE a b).1.Temp = b.Temp ∧ (joinE a b).1.Mono = b.Mono ∧ (joinE a b).1.Time = b.Time := by
  obtain ⟨i, r, m, H, e, v⟩ := joinE_cases h he
  rw [e]
  exact ⟨rfl, rfl, rfl, rfl, rfl⟩
theorem Inv.join {cur prev p : api_Point} (v : Inv cur prev) (op : Pok p) (h1 : chkE p = 0) (h2 : fitsE prev p = 0) (he : (joinE cur p).2 = 0) : Inv (joinE cur p).1 p := by
  have n := v.nbr op h1 h2
  have q := keyT_join n he
  exact ⟨join_right n (by rw [v.ti]; exact (fits0 h2).2.1) he, h1, q.2.1, q.2.2.1, q.2.2.2.1, q.2.2.2.2, q.1, joinE_pok n op he, op⟩
theorem chk_time {p : api_Point} (h : chkE p = 0) : 0 ≤ p.Time ∧ p.Time ≤ 4503599627370496 := by
  have t := (chk0 h).2.2.1
  rcases t.2 with q | q <;> have := t.1 <;> omega
theorem snoc_idx {α : Type} {A : List α} {x : α} : idx (A ++ [x]) (w64 (((A ++ [x]).length : Int) - 1)) = some x ∨ 1000000 < A.length := by
  by_cases h : 1000000 < A.length
  · exact .inr h
  · left
    rw [List.length_append, show w64 (((A.length + [x].length : Nat) : Int) - 1) = ((A.length : Nat) : Int) by rw [w64_id] <;> simp <;> omega]
    exact idx_app0 rfl
theorem snoc_set {α : Type} {A : List α} {x y : α} (h : A.length ≤ 1000000) : setI (A ++ [x]) (w64 (((A ++ [x]).length : Int) - 1)) y = some (A ++ [y]) := by
  rw [List.length_append, show w64 (((A.length + [x].length : Nat) : Int) - 1) = ((A.length : Nat) : Int) by rw [w64_id] <;> simp <;> omega]
  exact setI_app0 rfl
theorem roll_step {l acc : List api_Point} {cur prev p : api_Point} {w : Int} {i : Nat} (v : Inv cur prev) (op : Pok p) (hl : l.length ≤ 1000) (ha : acc.length ≤ 1000) (hw : 1 ≤ w) (hi : i + 1 < l.length) (h1 : l[i] = prev) (h2 : l[i + 1] = p) :
    rollup_Roll_lp1 l w (acc ++ [cur], ((i + 1 : Nat) : Int)) = some (match stepE w acc cur prev p with | .inl e => .out ([], ((i + 1 : Nat) : Int), e) | .inr s => .next (s.1 ++ [s.2], ((i + 2 : Nat) : Int))) := by
  have hx : idx l ((i + 1 : Nat) : Int) = some p := by rw [idx_nat hi, h2]
  have hy : idx l (w64 (((i + 1 : Nat) : Int) - 1)) = some prev := by rw [show w64 (((i + 1 : Nat) : Int) - 1) = (i : Int) by rw [w64_id] <;> omega, idx_nat (by omega), h1]
  have hs := (snoc_idx (A := acc) (x := cur)).resolve_right (by omega)
  unfold rollup_Roll_lp1 stepE
  dsimp only
  rw [bifTd (by omega), hx, bind_some, chk_eq op.o, bind_some]
  by_cases c : chkE p = 0
  case neg => rw [bifF (by simp [c]), bind_some, bifT (by simp [c]), if_pos c]; rfl
  rw [bifT (by simp only [c, decide_true, Bool.true_and, decide_eq_true_eq]; omega), hy, bind_some, fitsR_eq v.op.o op.o, bind_some, bind_some, if_neg (fun e => e c)]
  by_cases f : fitsE prev p = 0
  case neg => rw [bifT (by simp [f]), if_pos f]; rfl
  have tc := chk_time v.cc
  have tp := chk_time c
  rw [bifF (by simp [f]), if_neg (fun e => e f), lett_eq, bifFd (by rw [List.length_append, List.length_singleton]; omega), hs, bind_some, window_some tc.1 tc.2 hw, bind_some, window_some tp.1 tp.2 hw, bind_some, bind_some]
  by_cases q : cur.Time / w = p.Time / w
  · rw [bifF (by simp [q]), if_pos q, bind_some]
    obtain ⟨r, e, hr⟩ := join_E (v.nbr op c f)
    rw [e, bind_some]
    dsimp only
    rw [bind_some, snoc_set (by omega), bind_some]
    by_cases je : (joinE cur p).2 = 0
    · rw [bifF (by simp [je]), if_neg (fun e => e je), flow_go, hr je, w64_succ (by omega)]
    · rw [bifT (by simp [je]), if_pos je]; rfl
  · rw [bifT (by simp [q]), if_neg q, clone_p (by have := op.a; omega) op.o, bind_some, app_ok (by simp only [List.length_append, List.length_cons, List.length_nil]; omega), bind_some, flow_go, w64_succ (by omega)]
theorem rroll_step {l acc : List api_Point} {cur prev p : api_Point} {w : Int} {i : Nat} (v : Inv cur prev) (op : Pok p) (hl : l.length ≤ 1000) (ha : acc.length ≤ 1000) (hw : 1 ≤ w) (hi : i + 1 < l.length) (h1 : l[i] = prev) (h2 : l[i + 1] = p) :
    ref36_Roll_lp1 l w (acc ++ [cur], ((i + 1 : Nat) : Int)) = some (match stepE w acc cur prev p with | .inl e => .out ⟨[], ((i + 1 : Nat) : Int), e⟩ | .inr s => .next (s.1 ++ [s.2], ((i + 2 : Nat) : Int))) := by
  have hx : idx l ((i + 1 : Nat) : Int) = some p := by rw [idx_nat hi, h2]
  have hy : idx l (w64 (((i + 1 : Nat) : Int) - 1)) = some prev := by rw [show w64 (((i + 1 : Nat) : Int) - 1) = (i : Int) by rw [w64_id] <;> omega, idx_nat (by omega), h1]
  have hs := (snoc_idx (A := acc) (x := cur)).resolve_right (by omega)
  have hn : (!decide (w = 0)) = true := by simp; omega
  unfold ref36_Roll_lp1 stepE
  dsimp only
  rw [bifTd (by omega), hx, bind_some, rchk_eq op.o, bind_some]
  by_cases c : chkE p = 0
  case neg => rw [bifT (by simp [c]), if_pos c]; rfl
  rw [bifF (by simp [c]), bifTd (by omega), hy, bind_some, bind_some, behind_eq v.op.o op.o, bind_some, if_neg (fun e => e c)]
  by_cases f : fitsE prev p = 0
  case neg => rw [bifT (by simp [f]), if_pos f]; rfl
  have tc := chk_time v.cc
  have tp := chk_time c
  have dv : ∀ t : Int, 0 ≤ t ∧ t ≤ 4503599627370496 → w64 (t.tdiv w) = t / w := fun t ht => by
    have h0 : 0 ≤ t / w := Int.ediv_nonneg ht.1 (by omega)
    have h2 : t / w ≤ t := Int.ediv_le_self _ ht.1
    rw [Int.tdiv_eq_ediv_of_nonneg ht.1, w64_id (by omega) (by omega)]
  rw [bifF (by simp [f]), flow_go, if_neg (fun e => e f), lett_eq, bifTd (by rw [List.length_append, List.length_singleton]; omega), hs, bind_some, hn, chk_true, bind_some, chk_true, dv _ tc, dv _ tp, bind_some]
  by_cases q : cur.Time / w = p.Time / w
  · rw [bifTd q, if_pos q, bind_some, bind_some, together_E (v.nbr op c f), bind_some, bind_some]
    dsimp only
    by_cases je : (joinE cur p).2 = 0
    · rw [bifF (by simp [je]), if_neg (fun e => e je)]
      have h3 : slc (acc ++ [cur]) 0 (w64 (((acc ++ [cur]).length : Int) - 1)) = some acc := by
        rw [List.length_append, show w64 (((acc.length + [cur].length : Nat) : Int) - 1) = ((acc.length : Nat) : Int) by rw [w64_id] <;> simp <;> omega, show (0 : Int) = ((0 : Nat) : Int) from rfl, slc_nat (by omega) (by simp), List.drop_zero, List.take_left]
      rw [h3, bind_some, app_ok (by simp only [List.length_nil]; omega), bind_some, List.nil_append, app_ok (by simp only [List.length_cons, List.length_nil]; omega), bind_some, flow_go, lett_eq, w64_succ (by omega)]
    · rw [bifT (by simp [je]), if_pos je]; rfl
  · rw [bifFd q, if_neg q, bind_some, app_ok (by simp only [List.length_append, List.length_cons, List.length_nil]; omega), bind_some, flow_go, lett_eq, w64_succ (by omega)]
end Go.Lg
namespace Go.Lg
attribute [local irreducible] w64 toU64 toU8 shlU shrU shlB shrB
noncomputable def goE (w : Int) : List api_Point → api_Point → api_Point → List api_Point → Nat → List api_Point × Int × Int
  | acc, cur, _, [], _ => (acc ++ [cur], 0, 0)
  | acc, cur, prev, p :: r, i => match stepE w acc cur prev p with
    | .inl e => ([], (i : Int), e)
    | .inr s => goE w s.1 s.2 p r (i + 1)
noncomputable def rollE (w : Int) : List api_Point → List api_Point × Int × Int
  | [] => ([], 0, 0)
  | p :: r => if chkE p ≠ 0 then ([], 0, chkE p) else goE w [] p p r 1
theorem rollE_cons (w : Int) (p : api_Point) (r : List api_Point) : rollE w (p :: r) = if chkE p ≠ 0 then ([], 0, chkE p) else goE w [] p p r 1 := rfl
theorem stepE_cases {w : Int} {acc : List api_Point} {cur prev p : api_Point} : (∃ e, stepE w acc cur prev p = .inl e ∧ e ≠ 0) ∨
    (chkE p = 0 ∧ fitsE prev p = 0 ∧ ((cur.Time / w = p.Time / w ∧ (joinE cur p).2 = 0 ∧ stepE w acc cur prev p = .inr (acc, (joinE cur p).1)) ∨ (cur.Time / w ≠ p.Time / w ∧ stepE w acc cur prev p = .inr (acc ++ [cur], p)))) := by
  unfold stepE
  by_cases c : chkE p = 0
  case neg => rw [if_pos c]; exact .inl ⟨_, rfl, c⟩
  rw [if_neg (fun e => e c)]
  by_cases f : fitsE prev p = 0
  case neg => rw [if_pos f]; exact .inl ⟨_, rfl, f⟩
  rw [if_neg (fun e => e f)]
  by_cases q : cur.Time / w = p.Time / w
  · rw [if_pos q]
    by_cases je : (joinE cur p).2 = 0
    · rw [if_neg (fun e => e je)]; exact .inr ⟨c, f, .inl ⟨q, je, rfl⟩⟩
    · rw [if_pos je]; exact .inl ⟨_, rfl, je⟩
  · rw [if_neg q]; exact .inr ⟨c, f, .inr ⟨q, rfl⟩⟩
theorem Inv.step {w : Int} {acc : List api_Point} {cur prev p : api_Point} (v : Inv cur prev) (op : Pok p) {s : List api_Point × api_Point} (h : stepE w acc cur prev p = .inr s) :
    Inv s.2 p ∧ s.1.length ≤ acc.length + 1 ∧ ((∀ q ∈ acc, Pok q) → ∀ q ∈ s.1, Pok q) := by
  rcases stepE_cases (w := w) (acc := acc) (cur := cur) (prev := prev) (p := p) with ⟨e, h1, _⟩ | ⟨c, f, ⟨q, je, h1⟩ | ⟨q, h1⟩⟩
  · rw [h1] at h; cases h
  · rw [h1] at h
    cases h
    exact ⟨v.join op c f je, Nat.le_succ _, fun h => h⟩
  · rw [h1] at h
    cases h
    refine ⟨Inv.self c op, by simp, fun h x hx => ?_⟩
    rcases List.mem_append.1 hx with hx | hx
    · exact h x hx
    · rw [List.mem_singleton.1 hx]; exact v.oc
theorem goE_at {w : Int} : ∀ (r acc : List api_Point) (cur prev : api_Point) (i : Nat), (goE w acc cur prev r i).2.2 = 0 → (goE w acc cur prev r i).2.1 = 0
  | [], acc, cur, prev, i, _ => rfl
  | p :: r, acc, cur, prev, i, h => by
    unfold goE at *
    rcases stepE_cases (w := w) (acc := acc) (cur := cur) (prev := prev) (p := p) with ⟨e, h1, h2⟩ | ⟨c, f, ⟨q, je, h1⟩ | ⟨q, h1⟩⟩
    · rw [h1] at h; exact absurd h h2
    · rw [h1] at h ⊢; exact goE_at r _ _ _ _ h
    · rw [h1] at h ⊢; exact goE_at r _ _ _ _ h
theorem goE_pok {w : Int} : ∀ (r acc : List api_Point) (cur prev : api_Point) (i : Nat), Inv cur prev → (∀ q ∈ r, Pok q) → (∀ q ∈ acc, Pok q) → ∀ q ∈ (goE w acc cur prev r i).1, Pok q
  | [], acc, cur, prev, i, v, _, ha => fun x hx => by
    rcases List.mem_append.1 hx with hx | hx
    · exact ha x hx
    · rw [List.mem_singleton.1 hx]; exact v.oc
  | p :: r, acc, cur, prev, i, v, hr, ha => by
    unfold goE
    cases hs : stepE w acc cur prev p with
    | inl e => intro x hx; cases hx
    | inr s =>
      have q := v.step (hr p (List.mem_cons_self ..)) hs
      exact goE_pok r _ _ _ _ q.1 (fun x hx => hr x (List.mem_cons_of_mem _ hx)) (q.2.2 ha)
def goF (g : List api_Point × Int × Int) : Flow (List api_Point) (List api_Point × Int × Int) := if g.2.2 = 0 then .go g.1 else .out g
def goG (g : List api_Point × Int × Int) : Flow (List api_Point) ref36_Rolled := if g.2.2 = 0 then .go g.1 else .out ⟨g.1, g.2.1, g.2.2⟩
theorem goF_inl {i e : Int} (h : e ≠ 0) : goF ([], i, e) = .out ([], i, e) := if_neg h
theorem goG_inl {i e : Int} (h : e ≠ 0) : goG ([], i, e) = .out ⟨[], i, e⟩ := if_neg h
theorem roll_loop {l : List api_Point} {w : Int} (hl : l.length ≤ 1000) (hw : 1 ≤ w) (ho : ∀ p ∈ l, Pok p) : ∀ (m i : Nat) (acc : List api_Point) (cur prev : api_Point), i + 1 + m = l.length → acc.length ≤ i → l[i]? = some prev → Inv cur prev →
    loop (rollup_Roll_lp1 l w) (acc ++ [cur], ((i + 1 : Nat) : Int)) = some (goF (goE w acc cur prev (l.drop (i + 1)) (i + 1))) ∧
    loop (ref36_Roll_lp1 l w) (acc ++ [cur], ((i + 1 : Nat) : Int)) = some (goG (goE w acc cur prev (l.drop (i + 1)) (i + 1)))
  | 0, i, acc, cur, prev, h, ha, hp, v => by
    rw [List.drop_eq_nil_of_le (by omega)]
    exact ⟨loop_brk (by unfold rollup_Roll_lp1; dsimp only; rw [bifFd (by omega)]; rfl), loop_brk (by unfold ref36_Roll_lp1; dsimp only; rw [bifFd (by omega)]; rfl)⟩
  | m + 1, i, acc, cur, prev, h, ha, hp, v => by
    have hi : i + 1 < l.length := by omega
    have h1 : l[i] = prev := by
      rw [List.getElem?_eq_getElem (by omega)] at hp; exact Option.some.inj hp
    have op := ho l[i + 1] (List.getElem_mem hi)
    have s1 := roll_step (w := w) (acc := acc) v op hl (by omega) hw hi h1 rfl
    have s2 := rroll_step (w := w) (acc := acc) v op hl (by omega) hw hi h1 rfl
    rw [List.drop_eq_getElem_cons hi, goE]
    rcases stepE_cases (w := w) (acc := acc) (cur := cur) (prev := prev) (p := l[i + 1]) with ⟨e, h3, h4⟩ | h3
    · rw [h3] at s1 s2 ⊢
      dsimp only at s1 s2 ⊢
      exact ⟨by rw [loop_out s1, goF_inl h4], by rw [loop_out s2, goG_inl h4]⟩
    · have : ∃ s, stepE w acc cur prev l[i + 1] = .inr s := by
        rcases h3 with ⟨_, _, ⟨_, _, q⟩ | ⟨_, q⟩⟩ <;> exact ⟨_, q⟩
      obtain ⟨s, hs⟩ := this
      have q := v.step op hs
      rw [hs] at s1 s2 ⊢
      dsimp only at s1 s2 ⊢
      have ih := roll_loop hl hw ho m (i + 1) s.1 s.2 l[i + 1] (by omega) (by omega) (List.getElem?_eq_getElem hi) q.1
      exact ⟨by rw [loop_next s1]; exact ih.1, by rw [loop_next s2]; exact ih.2⟩
theorem roll_first {l : List api_Point} {p : api_Point} {r : List api_Point} {w : Int} (e : l = p :: r) (op : Pok p) :
    rollup_Roll_lp1 l w ([], 0) = some (if chkE p ≠ 0 then .out ([], 0, chkE p) else .next ([p], 1)) ∧ ref36_Roll_lp1 l w ([], 0) = some (if chkE p ≠ 0 then .out ⟨[], 0, chkE p⟩ else .next ([p], 1)) := by
  have hx : idx l 0 = some p := by subst e; rfl
  have hn : (0 : Int) < (l.length : Int) := by subst e; simp
  have e1 : w64 (0 + 1) = 1 := by rw [w64_id] <;> omega
  constructor
  · unfold rollup_Roll_lp1
    dsimp only
    rw [bifTd hn, hx, bind_some, chk_eq op.o, bind_some, bifF (by simp), bind_some]
    by_cases c : chkE p = 0
    · rw [bifF (by simp [c]), lett_eq, bifTd (by rfl), bind_some, bifT rfl, clone_p (by have := op.a; omega) op.o, bind_some, app_ok (by simp), bind_some, flow_go, if_neg (fun e => e c), e1]; rfl
    · rw [bifT (by simp [c]), if_pos c]; rfl
  · unfold ref36_Roll_lp1
    dsimp only
    rw [bifTd hn, hx, bind_some, rchk_eq op.o, bind_some]
    by_cases c : chkE p = 0
    · rw [bifF (by simp [c]), bifFd (by decide), flow_go, lett_eq, bifFd (by decide), bind_some, bifF rfl, bind_some, app_ok (by simp), bind_some, flow_go, lett_eq, if_neg (fun e => e c), e1]; rfl
    · rw [bifT (by simp [c]), if_pos c]; rfl
theorem roll_eq {l : List api_Point} {w : Int} (hl : l.length ≤ 1000) (hw : 1 ≤ w) (ho : ∀ p ∈ l, Pok p) : rollup_Roll l w = some (rollE w l) ∧ ref36_Roll l w = some ⟨(rollE w l).1, (rollE w l).2.1, (rollE w l).2.2⟩ := by
  unfold rollup_Roll ref36_Roll
  rw [bifFd (by omega), bifFd (by omega)]
  cases l with
  | nil =>
    rw [loop_brk (f := rollup_Roll_lp1 [] w) (b := []) (by unfold rollup_Roll_lp1; dsimp only; rw [bifFd (by simp)]), loop_brk (f := ref36_Roll_lp1 [] w) (b := []) (by unfold ref36_Roll_lp1; dsimp only; rw [bifFd (by simp)])]
    exact ⟨rfl, rfl⟩
  | cons p r =>
    have op := ho p (List.mem_cons_self ..)
    have f := roll_first (l := p :: r) (w := w) rfl op
    have f1 := f.1
    have f2 := f.2
    rw [rollE_cons]
    by_cases c : chkE p = 0
    · rw [if_neg (fun e => e c)] at f1 f2 ⊢
      have lp := roll_loop hl hw ho r.length 0 [] p p (by rw [List.length_cons]; omega) (Nat.le_refl _) rfl (Inv.self c op)
      have l1 : loop (rollup_Roll_lp1 (p :: r) w) ([p], 1) = some (goF (goE w [] p p r 1)) := lp.1
      have l2 : loop (ref36_Roll_lp1 (p :: r) w) ([p], 1) = some (goG (goE w [] p p r 1)) := lp.2
      rw [loop_next f1, loop_next f2, l1, l2]
      have ha := goE_at (w := w) r [] p p 1
      generalize goE w [] p p r 1 = g at *
      obtain ⟨L, at_, e⟩ := g
      unfold goF goG
      by_cases he : e = 0
      · have := ha he
        subst he
        dsimp only at this
        subst this
        exact ⟨rfl, rfl⟩
      · dsimp only
        rw [if_neg he, if_neg he]
        exact ⟨rfl, rfl⟩
    · rw [if_pos c] at f1 f2 ⊢
      rw [loop_out f1, loop_out f2]
      exact ⟨rfl, rfl⟩
theorem rollE_pok {l : List api_Point} {w : Int} (ho : ∀ p ∈ l, Pok p) : ∀ q ∈ (rollE w l).1, Pok q := by
  cases l with
  | nil => intro q hq; cases hq
  | cons p r =>
    rw [rollE_cons]
    by_cases c : chkE p = 0
    · rw [if_neg (fun e => e c)]
      exact goE_pok r [] p p 1 (Inv.self c (ho p (List.mem_cons_self ..))) (fun q hq => ho q (List.mem_cons_of_mem _ hq)) (fun q hq => by cases hq)
    · rw [if_pos c]; intro q hq; cases hq
theorem sameAll_self {l : List api_Point} (hl : l.length ≤ 100000) (ho : ∀ p ∈ l, Pok p) : ref12_SameAll l l = some true := by
  unfold ref12_SameAll
  rw [bifF (by simp), scan0 (n := l.length) (fun _ => none) (fun i hi => by
    unfold ref12_SameAll_lp1
    rw [bifTd (by omega), idx_nat hi, bind_some, bind_some, same_pok (ho _ (List.getElem_mem hi)), bind_some, bifF (by simp), lett_eq, w64_succ (by omega)]; rfl) (by unfold ref12_SameAll_lp1; rw [bifFd (by omega)]), flow_E,
    (firstE_none _ _).2 (fun _ _ _ => rfl)]; rfl
theorem goE_len {w : Int} : ∀ (r acc : List api_Point) (cur prev : api_Point) (i : Nat), (goE w acc cur prev r i).1.length ≤ acc.length + 1 + r.length
  | [], acc, cur, prev, i => by unfold goE; simp
  | p :: r, acc, cur, prev, i => by
    unfold goE
    rcases stepE_cases (w := w) (acc := acc) (cur := cur) (prev := prev) (p := p) with ⟨e, h1, h2⟩ | ⟨c, f, ⟨q, je, h1⟩ | ⟨q, h1⟩⟩
    · rw [h1]; simp
    · rw [h1]; have := goE_len (w := w) r acc (joinE cur p).1 p (i + 1); rw [List.length_cons]; dsimp only; omega
    · rw [h1]; have := goE_len (w := w) r (acc ++ [cur]) p p (i + 1); rw [List.length_append, List.length_singleton] at this; rw [List.length_cons]; dsimp only; omega
theorem rollE_len (l : List api_Point) (w : Int) : (rollE w l).1.length ≤ l.length := by
  cases l with
  | nil => exact Nat.le_refl _
  | cons p r =>
    rw [rollE_cons]
    split
    · simp
    · have := goE_len (w := w) r [] p p 1
      rw [List.length_nil] at this
      rw [List.length_cons]; omega
/-! ### what the document tells -/
theorem aw_pok {st ti i : Int} (hi : I64 i) : Pok (aw st ti i) := ⟨H0_good.ok, hi, Nat.zero_le _⟩
theorem aw_fits {s t i s' t' i' : Int} (c : chkE (aw s t i) = 0) (c' : chkE (aw s' t' i') = 0) : fitsE (aw s t i) (aw s' t' i') = if t' ≤ t then 9 else if s' < t then 10 else 0 := by
  unfold fitsE keyE
  rw [if_pos c, if_pos c', if_neg (by intro h; exact h rfl)]
  show (if t' ≤ t then 9 else if (2 : Int) = 2 ∧ s' < t then 10 else 0) = _
  simp
theorem awake36 : law36_awake = some true := by
  have c1 : chkE (aw 5 10 5) = 0 := aw_chk (by decide) (by decide) (by decide)
  have c2 : chkE (aw 10 12 3) = 0 := aw_chk (by decide) (by decide) (by decide)
  have c3 : chkE (aw 20 25 2) = 0 := aw_chk (by decide) (by decide) (by decide)
  have i5 : I64 5 := by unfold I64; omega
  have i3 : I64 3 := by unfold I64; omega
  have i2 : I64 2 := by unfold I64; omega
  have o1 := aw_pok (st := 5) (ti := 10) i5
  have o2 := aw_pok (st := 10) (ti := 12) i3
  have o3 := aw_pok (st := 20) (ti := 25) i2
  have j : joinE (aw 5 10 5) (aw 10 12 3) = (aw 5 12 8, 0) := by
    unfold joinE
    rw [if_neg (by decide), if_pos (by decide), if_pos (by unfold I64 aw; dsimp only; omega)]
    have hor : orI 0 0 = 0 := by decide +kernel
    unfold baseJ aw
    dsimp only
    rw [hor]; rfl
  have s1 : stepE 20 [] (aw 5 10 5) (aw 5 10 5) (aw 10 12 3) = .inr ([], aw 5 12 8) := by
    unfold stepE
    rw [if_neg (fun e => e c2), aw_fits c1 c2, if_neg (by decide), if_pos (by decide), j, if_neg (by decide)]
  have s2 : stepE 20 [] (aw 5 12 8) (aw 10 12 3) (aw 20 25 2) = .inr ([aw 5 12 8], aw 20 25 2) := by
    unfold stepE
    rw [if_neg (fun e => e c3), aw_fits c2 c3, if_neg (by decide), if_neg (by decide)]; rfl
  have s3 : stepE 20 [] (aw 10 12 3) (aw 10 12 3) (aw 5 10 5) = .inl 9 := by
    unfold stepE
    rw [if_neg (fun e => e c1), aw_fits c2 c1, if_pos (by decide)]; rfl
  have r1 : rollE 20 [aw 5 10 5, aw 10 12 3, aw 20 25 2] = ([aw 5 12 8, aw 20 25 2], 0, 0) := by
    rw [rollE_cons]
    rw [if_neg (fun e => e c1), goE, s1]
    dsimp only
    rw [goE, s2]
    rfl
  have r2 : rollE 20 [aw 10 12 3, aw 5 10 5] = ([], 1, 9) := by
    rw [rollE_cons]
    rw [if_neg (fun e => e c2), goE, s3]; rfl
  have q1 : rollup_Roll [aw 5 10 5, aw 10 12 3, aw 20 25 2] 20 = _ := (roll_eq (by decide) (by decide) (by simp [o1, o2, o3])).1
  have q2 : rollup_Roll [aw 10 12 3, aw 5 10 5] 20 = _ := (roll_eq (by decide) (by decide) (by simp [o1, o2])).1
  rw [r1] at q1
  rw [r2] at q2
  unfold aw H0 at q1 q2
  unfold law36_awake
  rw [q1, bind_some]
  dsimp only
  rw [q2, bind_some]
  dsimp only
  rw [bifT (by decide), show idx [(api_Point.mk [120] [] 1 2 false 5 12 8 0 0 ⟨0, 0, ⟨0, []⟩, ⟨0, []⟩⟩ 0), (api_Point.mk [120] [] 1 2 false 20 25 2 0 0 ⟨0, 0, ⟨0, []⟩, ⟨0, []⟩⟩ 0)] 0 = some (api_Point.mk [120] [] 1 2 false 5 12 8 0 0 ⟨0, 0, ⟨0, []⟩, ⟨0, []⟩⟩ 0) from rfl, bind_some, bind_some, bifTd (by rfl), bind_some, bind_some, bifTd (by rfl), bind_some, bind_some, bifTd (by rfl),
    show idx [(api_Point.mk [120] [] 1 2 false 5 12 8 0 0 ⟨0, 0, ⟨0, []⟩, ⟨0, []⟩⟩ 0), (api_Point.mk [120] [] 1 2 false 20 25 2 0 0 ⟨0, 0, ⟨0, []⟩, ⟨0, []⟩⟩ 0)] 1 = some (api_Point.mk [120] [] 1 2 false 20 25 2 0 0 ⟨0, 0, ⟨0, []⟩, ⟨0, []⟩⟩ 0) from rfl, bind_some, bind_some, bifT (by decide), window_some (by decide) (by decide) (by decide), bind_some, bind_some]
  decide
theorem LiP.pok {p : api_Point} (l : LiP p) (i : IsP p) : Pok p := ⟨l.ok i, i.i, by have := l.la; omega⟩
end Go.Lg
namespace Go.Lg
attribute [local irreducible] w64 toU64 toU8 shlU shrU shlB shrB
theorem rsome_eq {l : List api_Point} (most : Int) (hm : most ≤ 1000) : ref12_Some l most = some (decide ((l.length : Int) ≤ most) && l.all lightP) := by
  unfold ref12_Some
  by_cases h : (l.length : Int) ≤ most
  · rw [bifFd (by omega), decide_eq_true h, Bool.true_and]
    have hs : ∀ i : Nat, i < l.length → ref12_Some_lp1 l (i : Int) = some (rndE i (if lightP (l.getD i Pt0) = true then none else some false)) := by
      intro i hi
      unfold ref12_Some_lp1
      rw [bifTd (by omega), idx_nat hi, bind_some, rlightP_eq, bind_some, getD_lt hi]
      cases lightP l[i]
      · rfl
      · rw [bifF (by rfl), lett_eq, w64_succ (by omega)]; rfl
    rw [scan0 (n := l.length) _ hs (by unfold ref12_Some_lp1; rw [bifFd (by omega)]), flow_E]
    exact all_first fun i hi => by rw [getD_lt hi]
  · rw [bifTd (by omega), decide_eq_false h, Bool.false_and]
/-! ### one step -/
/-- what a state may be, behind points of one kind -/
structure SInv (s : api_State) (K : Int) (M : Bool) : Prop where
  some : s.Some = true
  t0 : 0 ≤ s.Start
  t1 : s.Start < s.Time
  t2 : s.Time ≤ 4503599627370496
  own : OwnS s K
  good : Good s.Hist
  int : I64 s.Int_
  mono : M = true → finB s.Re = true ∧ fGe s.Re.toNat ∧ 0 ≤ s.Int_
def freshP (p : api_Point) (H : api_Hist) : api_State := ⟨true, p.Start, p.Time, p.Int_, p.Re, p.Im, H⟩
/-- a point that was taken -/
structure StepC (s : api_State) (p : api_Point) (most : Int) (t : api_State) (q : api_Point) (H : api_Hist) (fl : Int) : Prop where
  inp : InP p 2 most H
  q : q = ⟨p.Name, p.Attrs, p.Kind, 1, p.Mono, t.Start, p.Time, t.Int_, t.Re, t.Im, t.Hist, fl⟩
  time : t.Time = p.Time
  later : s.Some = true → s.Time < p.Time ∧ s.Time ≤ p.Start
  how : (s.Some = false ∧ fl = 1 ∧ t = freshP p H) ∨ (s.Some = true ∧ s.Time < p.Start ∧ fl = 8 ∧ t = freshP p H) ∨ (s.Some = true ∧ p.Start = s.Time ∧ fl = 16 ∧ t = freshP p H) ∨
    (s.Some = true ∧ p.Start = s.Time ∧ fl = 0 ∧ sumC s { p with Hist := H } most = some t ∧ t.Start = s.Start)
/-! ### all steps -/
structure Tri where
  p : api_Point
  q : api_Point
  t : api_State
def D3 : Tri := ⟨Pt0, Pt0, S0⟩
/-- the state ahead of the i-th point -/
def stB (l : List Tri) (i : Nat) : api_State := match i with
  | 0 => S0
  | i + 1 => (l.getD i D3).t
structure RunC (most : Int) (K : Int) (M : Bool) (l : List Tri) : Prop where
  step : ∀ i, i < l.length → nextC (stB l i) (l.getD i D3).p most = ((l.getD i D3).t, (l.getD i D3).q, 0)
  pts : ∀ x ∈ l, LiP x.p ∧ IsP x.p ∧ x.p.Kind = K ∧ x.p.Mono = M
end Go.Lg
namespace Go.Lg
attribute [local irreducible] w64 toU64 toU8 shlU shrU shlB shrB
theorem all_lip {l : List api_Point} (h : l.all lightP = true) (ip : ∀ p ∈ l, IsP p) : ∀ p ∈ l, Pok p := fun p hp => (lightP_of (List.all_eq_true.1 h p hp)).pok (ip p hp)
theorem roll_both (l : List api_Point) (w : Int) (hl : l.length ≤ 1000) (ho : ∀ p ∈ l, Pok p) : ∃ g : List api_Point × Int × Int, rollup_Roll l w = some g ∧ ref36_Roll l w = some ⟨g.1, g.2.1, g.2.2⟩ ∧ g.1.length ≤ 1000 ∧ ∀ p ∈ g.1, Pok p := by
  by_cases hw : w < 1
  · exact ⟨([], 0, 1), by unfold rollup_Roll; rw [bifTd hw], by unfold ref36_Roll; rw [bifTd hw], by decide, fun p hp => by cases hp⟩
  · have h := roll_eq hl (show 1 ≤ w by omega) ho
    have := rollE_len l w
    exact ⟨_, h.1, h.2, by omega, rollE_pok ho⟩
theorem rollupRolls (l : List api_Point) (w : Int) (ip : ∀ p ∈ l, IsP p) : law36_RollupRolls l w = some true := by
  unfold law36_RollupRolls
  rw [awake36, bind_some, bifF (c := !true) rfl, rsome_eq 20 (by decide), bind_some]
  by_cases h : (decide ((l.length : Int) ≤ 20) && l.all lightP) = true
  case neg => rw [bifT (by rw [Bool.not_eq_true] at h; rw [h]; rfl)]
  rw [bifF (by rw [h]; rfl)]
  simp only [Bool.and_eq_true, decide_eq_true_eq] at h
  obtain ⟨g, h1, h2, h3, h4⟩ := roll_both l w (by omega) (all_lip h.2 ip)
  obtain ⟨L, at_, e⟩ := g
  rw [h1, bind_some]
  dsimp only at *
  rw [h2, bind_some, sameAll_self (by omega) h4, bind_some, lett_eq]
  simp
end Go.Lg
