/- Lemmas about the given model and about plain data, which the rows stand on: no statement of the program by itself. -/
import Derived.Test.YtdpokdaeekanjaaRkLgHistP
import Derived.Test.YtdpokdaeekanjaaRkLg01b
set_option linter.unusedVariables false
namespace Go.Lg
attribute [local irreducible] w64 toU64 toU8 shlU shrU shlB shrB
/-! ### sums of counts -/
def su (l : List UInt64) : Nat := (l.map (·.toNat)).sum
def us (l : List UInt64) : UInt64 := l.foldl (· + ·) 0
theorem su_append (l m : List UInt64) : su (l ++ m) = su l + su m := by simp [su]
theorem su_snoc (l : List UInt64) (x : UInt64) : su (l ++ [x]) = su l + x.toNat := by simp [su]
theorem take_snoc {α : Type} {l : List α} {i : Nat} (h : i < l.length) : l.take (i + 1) = l.take i ++ [l[i]] := List.take_succ_eq_append_getElem h
theorem su_take_le (l : List UInt64) (k : Nat) : su (l.take k) ≤ su l := by
  have := List.take_append_drop k l
  have h2 : su l = su (l.take k) + su (l.drop k) := by rw [← su_append, this]
  omega
theorem or_zero {a b : UInt64} : a ||| b = 0 ↔ a = 0 ∧ b = 0 := by
  constructor
  · intro h
    have h1 : (a ||| b).toBitVec = 0 := by rw [h]; rfl
    rw [UInt64.toBitVec_or] at h1
    have h2 := BitVec.or_eq_zero_iff.1 h1
    exact ⟨UInt64.toBitVec_inj.1 h2.1, UInt64.toBitVec_inj.1 h2.2⟩
  · rintro ⟨rfl, rfl⟩; rfl
/-- a running sum and whether it has passed 2^64 -/
def Acc (T : Nat) (s o : UInt64) : Prop := s.toNat = T % 18446744073709551616 ∧ (o = 0 ↔ T < 18446744073709551616)
theorem Acc.step {T : Nat} {s o : UInt64} (h : Acc T s o) (c : UInt64) : Acc (T + c.toNat) (add64S s c 0) (o ||| add64C s c 0) := by
  obtain ⟨h1, h2⟩ := h
  have hc := UInt64.toNat_lt c
  have hs := UInt64.toNat_lt s
  refine ⟨?_, ?_⟩
  · unfold add64S
    rw [UInt64.add_zero, UInt64.toNat_add, h1]; omega
  · rw [or_zero, h2]
    have h3 : (add64C s c 0).toNat = (s.toNat + c.toNat) / 18446744073709551616 := by
      unfold add64C
      rw [u64_ofNat (by simp; omega)]; simp
    rw [← UInt64.toNat_inj, h3, show (0 : UInt64).toNat = 0 from rfl, h1]
    omega
theorem total_inner (sd : api_Side) (hl : sd.Counts.length ≤ 1000000) (T : Nat) : ∀ (m x : Nat) (s o : UInt64), x + m = sd.Counts.length → Acc (T + su (sd.Counts.take x)) s o →
    ∃ s' o', loop (hist_Total_lp2 sd) (s, o, (x : Int)) = some (.go (s', o')) ∧ Acc (T + su sd.Counts) s' o' := by
  intro m
  induction m with
  | zero =>
    intro x s o hx h
    obtain rfl : x = sd.Counts.length := by omega
    rw [List.take_length] at h
    refine ⟨s, o, loop_brk ?_, h⟩
    unfold hist_Total_lp2
    dsimp only
    rw [bifFd (by omega)]
  | succ m ih =>
    intro x s o hx h
    have hlt : x < sd.Counts.length := by omega
    have h' := h.step sd.Counts[x]
    rw [Nat.add_assoc, ← su_snoc, ← take_snoc hlt] at h'
    obtain ⟨s', o', g1, g2⟩ := ih (x + 1) _ _ (by omega) h'
    refine ⟨s', o', ?_, g2⟩
    rw [← g1]
    refine loop_next ?_
    unfold hist_Total_lp2
    dsimp only
    rw [bifTd (by omega), idx_nat hlt, bind_some, lett_eq, lett_eq, lett_eq, w64_succ (by omega)]
/-- all that a histogram counts -/
def tot (h : api_Hist) : Nat := h.Zero.toNat + su h.Pos.Counts + su h.Neg.Counts
theorem total_eq {h : api_Hist} (hp : h.Pos.Counts.length ≤ 1000000) (hn : h.Neg.Counts.length ≤ 1000000) :
    hist_Total h = some (if tot h < 18446744073709551616 then (UInt64.ofNat (tot h), true) else (0, false)) := by
  have a0 : Acc (h.Zero.toNat + su (h.Pos.Counts.take 0)) h.Zero 0 := by
    have := UInt64.toNat_lt h.Zero
    refine ⟨by simp [su], by simp [su]; omega⟩
  obtain ⟨s1, o1, p1, q1⟩ := total_inner h.Pos hp h.Zero.toNat h.Pos.Counts.length 0 h.Zero 0 (by omega) a0
  obtain ⟨s2, o2, p2, q2⟩ := total_inner h.Neg hn (h.Zero.toNat + su h.Pos.Counts) h.Neg.Counts.length 0 s1 o1 (by omega) (by simpa [su] using q1)
  have p1' : loop (hist_Total_lp2 h.Pos) (h.Zero, 0, 0) = _ := p1
  have p2' : loop (hist_Total_lp2 h.Neg) (s1, o1, 0) = _ := p2
  have r0 : hist_Total_lp1 [h.Pos, h.Neg] (h.Zero, 0, ((0 : Nat) : Int)) = some (.next (s1, o1, ((1 : Nat) : Int))) := by
    unfold hist_Total_lp1
    dsimp only
    rw [bifTd (by omega), idx_nat (by simp), bind_some, w64_succ (by omega)]
    dsimp only [List.getElem_cons_zero]
    rw [p1', flow_go]; rfl
  have r1 : hist_Total_lp1 [h.Pos, h.Neg] (s1, o1, ((1 : Nat) : Int)) = some (.next (s2, o2, ((2 : Nat) : Int))) := by
    unfold hist_Total_lp1
    dsimp only
    rw [bifTd (by omega), idx_nat (by simp), bind_some, w64_succ (by omega)]
    dsimp only [List.getElem_cons_succ, List.getElem_cons_zero]
    rw [p2', flow_go]; rfl
  have r2 : hist_Total_lp1 [h.Pos, h.Neg] (s2, o2, ((2 : Nat) : Int)) = some (.brk (s2, o2)) := by
    unfold hist_Total_lp1
    dsimp only
    rw [bifFd (by omega)]
  have hl : loop (hist_Total_lp1 [h.Pos, h.Neg]) (h.Zero, 0, 0) = some (.go (s2, o2)) := by
    have e : loop (hist_Total_lp1 [h.Pos, h.Neg]) (h.Zero, 0, 0) = loop (hist_Total_lp1 [h.Pos, h.Neg]) (h.Zero, 0, ((0 : Nat) : Int)) := rfl
    rw [e, loop_next r0, loop_next r1, loop_brk r2]
  unfold hist_Total
  rw [show hist_sides h = some [h.Pos, h.Neg] from rfl, bind_some, hl, flow_go]
  dsimp only
  rw [bind_some]
  dsimp only
  have hT : tot h = h.Zero.toNat + su h.Pos.Counts + su h.Neg.Counts := rfl
  rw [← hT] at q2
  by_cases hlt : tot h < 18446744073709551616
  · have e : s2 = UInt64.ofNat (tot h) := by apply UInt64.toNat_inj.1; rw [q2.1, u64_ofNat hlt]; omega
    rw [if_pos hlt, bifF (by rw [decide_eq_true (q2.2.2 hlt)]; rfl), e]
  · rw [if_neg hlt, bifT (by rw [decide_eq_false (fun e => hlt (q2.2.1 e))]; rfl)]
theorem refSum_eq {a : UInt64} {l : List UInt64} (hl : l.length ≤ 1000000) : ref08_sum a l = some (if a.toNat + su l < 18446744073709551616 then (UInt64.ofNat (a.toNat + su l), true) else (0, false)) := by
  have key : ∀ (m i : Nat) (s : UInt64), i + m = l.length → s.toNat = a.toNat + su (l.take i) →
      loop (ref08_sum_lp1 l) (s, (i : Int)) = some (if a.toNat + su l < 18446744073709551616 then .go (UInt64.ofNat (a.toNat + su l)) else .out (0, false)) := by
    intro m
    induction m with
    | zero =>
      intro i s hi hs
      obtain rfl : i = l.length := by omega
      rw [List.take_length] at hs
      have := UInt64.toNat_lt s
      rw [if_pos (by omega), ← hs]
      refine loop_brk ?_
      unfold ref08_sum_lp1
      dsimp only
      rw [bifFd (by omega)]; simp
    | succ m ih =>
      intro i s hi hs
      have hlt : i < l.length := by omega
      have hle : su (l.take (i + 1)) ≤ su l := su_take_le l (i + 1)
      rw [take_snoc hlt, su_snoc] at hle
      have hsl := UInt64.toNat_lt s
      have hsub : ((18446744073709551615 : UInt64) - s).toNat = 18446744073709551615 - s.toNat := by
        rw [UInt64.toNat_sub_of_le]
        · rfl
        · rw [UInt64.le_iff_toNat_le]
          have : (18446744073709551615 : UInt64).toNat = 18446744073709551615 := rfl
          omega
      by_cases hov : 18446744073709551615 - s.toNat < (l[i]).toNat
      · rw [if_neg (by omega)]
        refine loop_out ?_
        unfold ref08_sum_lp1
        dsimp only
        rw [bifTd (by omega), idx_nat hlt, bind_some, bifTd (by rw [UInt64.lt_iff_toNat_lt, hsub]; exact hov)]
        rfl
      · rw [loop_next (s' := (s + l[i], ((i + 1 : Nat) : Int))), ih (i + 1) _ (by omega)]
        · rw [take_snoc hlt, su_snoc, UInt64.toNat_add, hs]; omega
        · unfold ref08_sum_lp1
          dsimp only
          rw [bifTd (by omega), idx_nat hlt, bind_some, bifFd (by rw [UInt64.lt_iff_toNat_lt, hsub]; exact hov), bind_some, lett_eq, lett_eq, w64_succ (by omega)]
  unfold ref08_sum
  have h0 := key l.length 0 a (by omega) (by simp [su])
  have h0' : loop (ref08_sum_lp1 l) (a, 0) = _ := h0
  rw [h0']
  split <;> rfl
theorem refTotal_eq {h : api_Hist} (hp : h.Pos.Counts.length ≤ 1000000) (hn : h.Neg.Counts.length ≤ 1000000) :
    ref08_Total h = some (if tot h < 18446744073709551616 then (UInt64.ofNat (tot h), true) else (0, false)) := by
  unfold ref08_Total
  have hT : tot h = h.Zero.toNat + su h.Pos.Counts + su h.Neg.Counts := rfl
  rw [refSum_eq hp, bind_some]
  by_cases h1 : h.Zero.toNat + su h.Pos.Counts < 18446744073709551616
  · rw [if_pos h1]
    dsimp only
    rw [bifF (by rfl), refSum_eq hn, bind_some, u64_ofNat h1, ← hT]
  · rw [if_neg h1, if_neg (by omega)]
    rfl
/-! ### what is wrong with a side, with a histogram -/
def sideE (s : api_Side) : Int :=
  if 160 < s.Counts.length then 4
  else if s.Counts.length = 0 then (if s.Offset = 0 then 0 else 3)
  else if s.Counts.getD 0 0 = 0 ∨ s.Counts.getD (s.Counts.length - 1) 0 = 0 then 3
  else if s.Offset < -1073741824 ∨ 1073741824 - ((s.Counts.length : Int) - 1) < s.Offset then 1 else 0
theorem ends_eq {c : List UInt64} (h : 0 < c.length) (hl : c.length ≤ 1000000) :
    ((idx c 0).bind fun e33 => (bif decide (e33 = 0) then some true else (idx c (w64 ((c.length : Int) - 1))).bind fun e49 => some (decide (e49 = 0)))) = some (decide (c.getD 0 0 = 0 ∨ c.getD (c.length - 1) 0 = 0)) := by
  have e1 : w64 ((c.length : Int) - 1) = ((c.length - 1 : Nat) : Int) := w64_subN (b := 1) h (by omega)
  rw [idx_0 h, bind_some, e1, idx_nat (by omega), bind_some, getD_lt h, getD_lt (by omega)]
  by_cases h0 : c[0] = 0
  · rw [bifTd h0, decide_eq_true (.inl h0)]
  · rw [bifFd h0]
    congr 1
    rw [decide_eq_decide]
    exact ⟨.inr, fun h => h.elim (fun e => absurd e h0) id⟩
theorem bind_assoc' {α β γ : Type} (x : Option α) (f : α → Option β) (g : β → Option γ) : (x.bind f).bind g = x.bind fun a => (f a).bind g := by cases x <;> rfl
theorem check_eq {s : api_Side} (ho : I64 s.Offset) (hl : s.Counts.length ≤ 1000000) : hist_check s = some (sideE s) := by
  unfold I64 at ho
  unfold hist_check sideE
  rw [lett_eq, lett_eq]
  by_cases h1 : 160 < s.Counts.length
  · rw [bifTd (by omega), if_pos h1]
  rw [bifFd (by omega), if_neg h1, lett_eq]
  by_cases h2 : s.Counts.length = 0
  · rw [if_pos h2]
    by_cases h3 : s.Offset = 0
    · rw [if_pos h3, bifF (by simp [h3]), lett_eq, bifTd (by omega)]
    · rw [if_neg h3, bifT (by simp [h3, h2])]
  rw [if_neg h2, bifF (by simp [h2]), lett_eq, bifFd (by omega), ← bind_assoc', ends_eq (by omega) hl, bind_some]
  by_cases h4 : s.Counts.getD 0 0 = 0 ∨ s.Counts.getD (s.Counts.length - 1) 0 = 0
  · rw [bifTd h4, if_pos h4]
  rw [bifFd h4, if_neg h4, lett_eq, w64_id (x := (s.Counts.length : Int) - 1) (by omega) (by omega), w64_id (by omega) (by omega), ← Bool.decide_or]
  by_cases h5 : s.Offset < -1073741824 ∨ 1073741824 - ((s.Counts.length : Int) - 1) < s.Offset
  · rw [bifTd h5, if_pos h5]
  · rw [bifFd h5, if_neg h5]
theorem side_eq {s : api_Side} (ho : I64 s.Offset) (hl : s.Counts.length ≤ 1000000) : ref08_side s = some (sideE s) := by
  unfold I64 at ho
  unfold ref08_side sideE
  rw [lett_eq]
  by_cases h1 : 160 < s.Counts.length
  · rw [bifTd (by omega), if_pos h1]
  rw [bifFd (by omega), if_neg h1]
  by_cases h2 : s.Counts.length = 0
  · rw [if_pos h2, bifTd (by omega)]
    by_cases h3 : s.Offset = 0
    · rw [if_pos h3, bifF (by simp [h3])]
    · rw [if_neg h3, bifT (by simp [h3])]
  rw [if_neg h2, bifFd (by omega), ← bind_assoc', ends_eq (by omega) hl, bind_some]
  by_cases h4 : s.Counts.getD 0 0 = 0 ∨ s.Counts.getD (s.Counts.length - 1) 0 = 0
  · rw [bifTd h4, if_pos h4]
  rw [bifFd h4, if_neg h4, ← Bool.decide_or, ← Bool.decide_or]
  by_cases h5 : s.Offset < -1073741824 ∨ 1073741824 - ((s.Counts.length : Int) - 1) < s.Offset
  · rw [if_pos h5, bifTd]
    by_cases h6 : 1073741824 < s.Offset
    · exact .inl (.inr h6)
    · rcases h5 with h5 | h5
      · exact .inl (.inl h5)
      · refine .inr ?_
        rw [w64_id (x := s.Offset + (s.Counts.length : Int)) (by omega) (by omega), w64_id (by omega) (by omega)]; omega
  · rw [if_neg h5, bifFd]
    rw [w64_id (x := s.Offset + (s.Counts.length : Int)) (by omega) (by omega), w64_id (by omega) (by omega)]; omega
def histE (h : api_Hist) : Int :=
  if h.Scale < -10 ∨ 20 < h.Scale then 1
  else if sideE h.Pos ≠ 0 then sideE h.Pos
  else if sideE h.Neg ≠ 0 then sideE h.Neg
  else if tot h < 18446744073709551616 then 0 else 4
structure OkH (h : api_Hist) : Prop where
  s : I64 h.Scale
  po : I64 h.Pos.Offset
  no : I64 h.Neg.Offset
  pl : h.Pos.Counts.length ≤ 1000000
  nl : h.Neg.Counts.length ≤ 1000000
theorem Check_eq {h : api_Hist} (o : OkH h) : hist_Check h = some (histE h) := by
  have c1 := check_eq o.po o.pl
  have c2 := check_eq o.no o.nl
  have r0 : hist_Check_lp1 [h.Pos, h.Neg] ((0 : Nat) : Int) = if sideE h.Pos ≠ 0 then some (.out (.out (sideE h.Pos))) else some (.next ((1 : Nat) : Int)) := by
    unfold hist_Check_lp1
    rw [bifTd (by omega), idx_nat (by simp), bind_some]
    dsimp only [List.getElem_cons_zero]
    rw [c1, bind_some]
    by_cases e : sideE h.Pos = 0
    · rw [if_neg (fun h => h e), bifF (by simp [e]), w64_succ (by omega)]
    · rw [if_pos e, bifT (by simp [e])]; rfl
  have r1 : hist_Check_lp1 [h.Pos, h.Neg] ((1 : Nat) : Int) = if sideE h.Neg ≠ 0 then some (.out (.out (sideE h.Neg))) else some (.next ((2 : Nat) : Int)) := by
    unfold hist_Check_lp1
    rw [bifTd (by omega), idx_nat (by simp), bind_some]
    dsimp only [List.getElem_cons_succ, List.getElem_cons_zero]
    rw [c2, bind_some]
    by_cases e : sideE h.Neg = 0
    · rw [if_neg (fun h => h e), bifF (by simp [e]), w64_succ (by omega)]
    · rw [if_pos e, bifT (by simp [e])]; rfl
  have r2 : hist_Check_lp1 [h.Pos, h.Neg] ((2 : Nat) : Int) = some (.brk ()) := by
    unfold hist_Check_lp1
    rw [bifFd (by omega)]
  unfold hist_Check histE
  by_cases h1 : h.Scale < -10 ∨ 20 < h.Scale
  · rw [if_pos h1, bifT (by simpa using h1)]
  rw [if_neg h1, bifF (by simpa using h1), show hist_sides h = some [h.Pos, h.Neg] from rfl, bind_some]
  show flow (flow (loop (hist_Check_lp1 [h.Pos, h.Neg]) ((0 : Nat) : Int)) _) _ = _
  by_cases h2 : sideE h.Pos ≠ 0
  · rw [if_pos h2] at r0
    rw [if_pos h2, loop_out r0]; rfl
  rw [if_neg h2] at r0
  rw [if_neg h2, loop_next r0]
  by_cases h3 : sideE h.Neg ≠ 0
  · rw [if_pos h3] at r1
    rw [if_pos h3, loop_out r1]; rfl
  rw [if_neg h3] at r1
  rw [if_neg h3, loop_next r1, loop_brk r2, flow_go, flow_go, total_eq o.pl o.nl, bind_some]
  by_cases h4 : tot h < 18446744073709551616
  · rw [if_pos h4, if_pos h4]; rfl
  · rw [if_neg h4, if_neg h4]; rfl
theorem RCheck_eq {h : api_Hist} (o : OkH h) : ref08_Check h = some (histE h) := by
  unfold ref08_Check histE
  by_cases h1 : h.Scale < -10 ∨ 20 < h.Scale
  · rw [if_pos h1, bifT (by simpa using h1)]
  rw [if_neg h1, bifF (by simpa using h1), side_eq o.po o.pl, bind_some]
  by_cases h2 : sideE h.Pos ≠ 0
  · rw [if_pos h2, bifT (by simp [h2])]
  rw [if_neg h2, bifF (by simpa using h2), side_eq o.no o.nl, bind_some]
  by_cases h3 : sideE h.Neg ≠ 0
  · rw [if_pos h3, bifT (by simp [h3])]
  rw [if_neg h3, bifF (by simpa using h3), refTotal_eq o.pl o.nl, bind_some]
  by_cases h4 : tot h < 18446744073709551616
  · rw [if_pos h4, if_pos h4]; rfl
  · rw [if_neg h4, if_neg h4]; rfl
end Go.Lg
