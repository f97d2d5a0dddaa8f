/- Lemmas about the given model and about plain data, which the rows stand on: no statement of the program by itself. -/
import Derived.Test.YtihlealbhlgikaaObLgPart0
import Ieee.Arith
set_option linter.unusedVariables false
namespace Go.Lg
attribute [local irreducible] w64 toU64 toU8 shlU shrU shlB shrB
/-! ### sums of counts -/
def su (l : List UInt64) : Nat := (l.map (·.toNat)).sum
def us (l : List UInt64) : UInt64 := l.foldl (· + ·) 0
theorem su_append (l m : List UInt64) : su (l ++ m) = su l + su m := by simp [su]
theorem su_snoc (l : List UInt64) (x : UInt64) : su (l ++ [x]) = su l + x.toNat := by simp [su]
theorem take_snoc {α : Type} {l : List α} {i : Nat} (h : i < l.length) : l.take (i + 1) = l.take i ++ [l[i]] := List.take_succ_eq_append_getElem h
theorem su_take_le (l : List UInt64) (k : Nat) : su (l.take k) ≤ su l := by
  have := List.take_append_drop k l
  have h2 : su l = su (l.take k) + su (l.drop k) := by rw [← su_append, this]
  omega
theorem or_zero {a b : UInt64} : a ||| b = 0 ↔ a = 0 ∧ b = 0 := by
  constructor
  · intro h
    have h1 : (a ||| b).toBitVec = 0 := by rw [h]; rfl
    rw [UInt64.toBitVec_or] at h1
    have h2 := BitVec.or_eq_zero_iff.1 h1
    exact ⟨UInt64.toBitVec_inj.1 h2.1, UInt64.toBitVec_inj.1 h2.2⟩
  · rintro ⟨rfl, rfl⟩; rfl
/-- a running sum and whether it has passed 2^64 -/
def Acc (T : Nat) (s o : UInt64) : Prop := s.toNat = T % 18446744073709551616 ∧ (o = 0 ↔ T < 18446744073709551616)
theorem Acc.step {T : Nat} {s o : UInt64} (h : Acc T s o) (c : UInt64) : Acc (T + c.toNat) (add64S s c 0) (o ||| add64C s c 0) := by
  obtain ⟨h1, h2⟩ := h
  have hc := UInt64.toNat_lt c
  have hs := UInt64.toNat_lt s
  refine ⟨?_, ?_⟩
  · unfold add64S
    rw [UInt64.add_zero, UInt64.toNat_add, h1]; omega
  · rw [or_zero, h2]
    have h3 : (add64C s c 0).toNat = (s.toNat + c.toNat) / 18446744073709551616 := by
      unfold add64C
      rw [u64_ofNat (by simp; omega)]; simp
    rw [← UInt64.toNat_inj, h3, show (0 : UInt64).toNat = 0 from rfl, h1]
    omega
theorem total_inner (sd : api_Side) (hl : sd.Counts.length ≤ 1000000) (T : Nat) : ∀ (m x : Nat) (s o : UInt64), x + m = sd.Counts.length → Acc (T + su (sd.Counts.take x)) s o →
    ∃ s' o', loop (hist_Total_lp2 sd) (s, o, (x : Int)) = some (.go (s', o')) ∧ Acc (T + su sd.Counts) s' o' := by
  intro m
  induction m with
  | zero =>
    intro x s o hx h
    obtain rfl : x = sd.Counts.length := by omega
    rw [List.take_length] at h
    refine ⟨s, o, loop_brk ?_, h⟩
    unfold hist_Total_lp2
    dsimp only
    rw [bifFd (by omega)]
  | succ m ih =>
    intro x s o hx h
    have hlt : x < sd.Counts.length := by omega
    have h' := h.step sd.Counts[x]
    rw [Nat.add_assoc, ← su_snoc, ← take_snoc hlt] at h'
    obtain ⟨s', o', g1, g2⟩ := ih (x + 1) _ _ (by omega) h'
    refine ⟨s', o', ?_, g2⟩
    rw [← g1]
    refine loop_next ?_
    unfold hist_Total_lp2
    dsimp only
    rw [bifTd (by omega), idx_nat hlt, bind_some, lett_eq, lett_eq, lett_eq, w64_succ (by omega)]
/-- all that a histogram counts -/
def tot (h : api_Hist) : Nat := h.Zero.toNat + su h.Pos.Counts + su h.Neg.Counts
theorem total_eq {h : api_Hist} (hp : h.Pos.Counts.length ≤ 1000000) (hn : h.Neg.Counts.length ≤ 1000000) :
    hist_Total h = some (if tot h < 18446744073709551616 then (UInt64.ofNat (tot h), true) else (0, false)) := by
  have a0 : Acc (h.Zero.toNat + su (h.Pos.Counts.take 0)) h.Zero 0 := by
    have := UInt64.toNat_lt h.Zero
    refine ⟨by simp [su], by simp [su]; omega⟩
  obtain ⟨s1, o1, p1, q1⟩ := total_inner h.Pos hp h.Zero.toNat h.Pos.Counts.length 0 h.Zero 0 (by omega) a0
  obtain ⟨s2, o2, p2, q2⟩ := total_inner h.Neg hn (h.Zero.toNat + su h.Pos.Counts) h.Neg.Counts.length 0 s1 o1 (by omega) (by simpa [su] using q1)
  have p1' : loop (hist_Total_lp2 h.Pos) (h.Zero, 0, 0) = _ := p1
  have p2' : loop (hist_Total_lp2 h.Neg) (s1, o1, 0) = _ := p2
  have r0 : hist_Total_lp1 [h.Pos, h.Neg] (h.Zero, 0, ((0 : Nat) : Int)) = some (.next (s1, o1, ((1 : Nat) : Int))) := by
    unfold hist_Total_lp1
    dsimp only
    rw [bifTd (by omega), idx_nat (by simp), bind_some, w64_succ (by omega)]
    dsimp only [List.getElem_cons_zero]
    rw [p1', flow_go]; rfl
  have r1 : hist_Total_lp1 [h.Pos, h.Neg] (s1, o1, ((1 : Nat) : Int)) = some (.next (s2, o2, ((2 : Nat) : Int))) := by
    unfold hist_Total_lp1
    dsimp only
    rw [bifTd (by omega), idx_nat (by simp), bind_some, w64_succ (by omega)]
    dsimp only [List.getElem_cons_succ, List.getElem_cons_zero]
    rw [p2', flow_go]; rfl
  have r2 : hist_Total_lp1 [h.Pos, h.Neg] (s2, o2, ((2 : Nat) : Int)) = some (.brk (s2, o2)) := by
    unfold hist_Total_lp1
    dsimp only
    rw [bifFd (by omega)]
  have hl : loop (hist_Total_lp1 [h.Pos, h.Neg]) (h.Zero, 0, 0) = some (.go (s2, o2)) := by
    have e : loop (hist_Total_lp1 [h.Pos, h.Neg]) (h.Zero, 0, 0) = loop (hist_Total_lp1 [h.Pos, h.Neg]) (h.Zero, 0, ((0 : Nat) : Int)) := rfl
    rw [e, loop_next r0, loop_next r1, loop_brk r2]
  unfold hist_Total
  rw [show hist_sides h = some [h.Pos, h.Neg] from rfl, bind_some, hl, flow_go]
  dsimp only
  rw [bind_some]
  dsimp only
  have hT : tot h = h.Zero.toNat + su h.Pos.Counts + su h.Neg.Counts := rfl
  rw [← hT] at q2
  by_cases hlt : tot h < 18446744073709551616
  · have e : s2 = UInt64.ofNat (tot h) := by apply UInt64.toNat_inj.1; rw [q2.1, u64_ofNat hlt]; omega
    rw [if_pos hlt, bifF (by rw [decide_eq_true (q2.2.2 hlt)]; rfl), e]
  · rw [if_neg hlt, bifT (by rw [decide_eq_false (fun e => hlt (q2.2.1 e))]; rfl)]
theorem refSum_eq {a : UInt64} {l : List UInt64} (hl : l.length ≤ 1000000) : ref08_sum a l = some (if a.toNat + su l < 18446744073709551616 then (UInt64.ofNat (a.toNat + su l), true) else (0, false)) := by
  have key : ∀ (m i : Nat) (s : UInt64), i + m = l.length → s.toNat = a.toNat + su (l.take i) →
      loop (ref08_sum_lp1 l) (s, (i : Int)) = some (if a.toNat + su l < 18446744073709551616 then .go (UInt64.ofNat (a.toNat + su l)) else .out (0, false)) := by
    intro m
    induction m with
    | zero =>
      intro i s hi hs
      obtain rfl : i = l.length := by omega
      rw [List.take_length] at hs
      have := UInt64.toNat_lt s
      rw [if_pos (by omega), ← hs]
      refine loop_brk ?_
      unfold ref08_sum_lp1
      dsimp only
      rw [bifFd (by omega)]; simp
    | succ m ih =>
      intro i s hi hs
      have hlt : i < l.length := by omega
      have hle : su (l.take (i + 1)) ≤ su l := su_take_le l (i + 1)
      rw [take_snoc hlt, su_snoc] at hle
      have hsl := UInt64.toNat_lt s
      have hsub : ((18446744073709551615 : UInt64) - s).toNat = 18446744073709551615 - s.toNat := by
        rw [UInt64.toNat_sub_of_le]
        · rfl
        · rw [UInt64.le_iff_toNat_le]
          have : (18446744073709551615 : UInt64).toNat = 18446744073709551615 := rfl
          omega
      by_cases hov : 18446744073709551615 - s.toNat < (l[i]).toNat
      · rw [if_neg (by omega)]
        refine loop_out ?_
        unfold ref08_sum_lp1
        dsimp only
        rw [bifTd (by omega), idx_nat hlt, bind_some, bifTd (by rw [UInt64.lt_iff_toNat_lt, hsub]; exact hov)]
        rfl
      · rw [loop_next (s' := (s + l[i], ((i + 1 : Nat) : Int))), ih (i + 1) _ (by omega)]
        · rw [take_snoc hlt, su_snoc, UInt64.toNat_add, hs]; omega
        · unfold ref08_sum_lp1
          dsimp only
          rw [bifTd (by omega), idx_nat hlt, bind_some, bifFd (by rw [UInt64.lt_iff_toNat_lt, hsub]; exact hov), bind_some, lett_eq, lett_eq, w64_succ (by omega)]
  unfold ref08_sum
  have h0 := key l.length 0 a (by omega) (by simp [su])
  have h0' : loop (ref08_sum_lp1 l) (a, 0) = _ := h0
  rw [h0']
  split <;> rfl
theorem refTotal_eq {h : api_Hist} (hp : h.Pos.Counts.length ≤ 1000000) (hn : h.Neg.Counts.length ≤ 1000000) :
    ref08_Total h = some (if tot h < 18446744073709551616 then (UInt64.ofNat (tot h), true) else (0, false)) := by
  unfold ref08_Total
  have hT : tot h = h.Zero.toNat + su h.Pos.Counts + su h.Neg.Counts := rfl
  rw [refSum_eq hp, bind_some]
  by_cases h1 : h.Zero.toNat + su h.Pos.Counts < 18446744073709551616
  · rw [if_pos h1]
    dsimp only
    rw [bifF (by rfl), refSum_eq hn, bind_some, u64_ofNat h1, ← hT]
  · rw [if_neg h1, if_neg (by omega)]
    rfl
/-! ### what is wrong with a side, with a histogram -/
def sideE (s : api_Side) : Int :=
  if 160 < s.Counts.length then 4
  else if s.Counts.length = 0 then (if s.Offset = 0 then 0 else 3)
  else if s.Counts.getD 0 0 = 0 ∨ s.Counts.getD (s.Counts.length - 1) 0 = 0 then 3
  else if s.Offset < -1073741824 ∨ 1073741824 - ((s.Counts.length : Int) - 1) < s.Offset then 1 else 0
theorem ends_eq {c : List UInt64} (h : 0 < c.length) (hl : c.length ≤ 1000000) :
    ((idx c 0).bind fun e33 => (bif decide (e33 = 0) then some true else (idx c (w64 ((c.length : Int) - 1))).bind fun e49 => some (decide (e49 = 0)))) = some (decide (c.getD 0 0 = 0 ∨ c.getD (c.length - 1) 0 = 0)) := by
  have e1 : w64 ((c.length : Int) - 1) = ((c.length - 1 : Nat) : Int) := w64_subN (b := 1) h (by omega)
  rw [idx_0 h, bind_some, e1, idx_nat (by omega), bind_some, getD_lt h, getD_lt (by omega)]
  by_cases h0 : c[0] = 0
  · rw [bifTd h0, decide_eq_true (.inl h0)]
  · rw [bifFd h0]
    congr 1
    rw [decide_eq_decide]
    exact ⟨.inr, fun h => h.elim (fun e => absurd e h0) id⟩
theorem bind_assoc' {α β γ : Type} (x : Option α) (f : α → Option β) (g : β → Option γ) : (x.bind f).bind g = x.bind fun a => (f a).bind g := by cases x <;> rfl
theorem check_eq {s : api_Side} (ho : I64 s.Offset) (hl : s.Counts.length ≤ 1000000) : hist_check s = some (sideE s) := by
  unfold I64 at ho
  unfold hist_check sideE
  rw [lett_eq, lett_eq]
  by_cases h1 : 160 < s.Counts.length
  · rw [bifTd (by omega), if_pos h1]
  rw [bifFd (by omega), if_neg h1, lett_eq]
  by_cases h2 : s.Counts.length = 0
  · rw [if_pos h2]
    by_cases h3 : s.Offset = 0
    · rw [if_pos h3, bifF (by simp [h3]), lett_eq, bifTd (by omega)]
    · rw [if_neg h3, bifT (by simp [h3, h2])]
  rw [if_neg h2, bifF (by simp [h2]), lett_eq, bifFd (by omega), ← bind_assoc', ends_eq (by omega) hl, bind_some]
  by_cases h4 : s.Counts.getD 0 0 = 0 ∨ s.Counts.getD (s.Counts.length - 1) 0 = 0
  · rw [bifTd h4, if_pos h4]
  rw [bifFd h4, if_neg h4, lett_eq, w64_id (x := (s.Counts.length : Int) - 1) (by omega) (by omega), w64_id (by omega) (by omega), ← Bool.decide_or]
  by_cases h5 : s.Offset < -1073741824 ∨ 1073741824 - ((s.Counts.length : Int) - 1) < s.Offset
  · rw [bifTd h5, if_pos h5]
  · rw [bifFd h5, if_neg h5]
theorem side_eq {s : api_Side} (ho : I64 s.Offset) (hl : s.Counts.length ≤ 1000000) : ref08_side s = some (sideE s) := by
  unfold I64 at ho
  unfold ref08_side sideE
  rw [lett_eq]
  by_cases h1 : 160 < s.Counts.length
  · rw [bifTd (by omega), if_pos h1]
  rw [bifFd (by omega), if_neg h1]
  by_cases h2 : s.Counts.length = 0
  · rw [if_pos h2, bifTd (by omega)]
    by_cases h3 : s.Offset = 0
    · rw [if_pos h3, bifF (by simp [h3])]
    · rw [if_neg h3, bifT (by simp [h3])]
  rw [if_neg h2, bifFd (by omega), ← bind_assoc', ends_eq (by omega) hl, bind_some]
  by_cases h4 : s.Counts.getD 0 0 = 0 ∨ s.Counts.getD (s.Counts.length - 1) 0 = 0
  · rw [bifTd h4, if_pos h4]
  rw [bifFd h4, if_neg h4, ← Bool.decide_or, ← Bool.decide_or]
  by_cases h5 : s.Offset < -1073741824 ∨ 1073741824 - ((s.Counts.length : Int) - 1) < s.Offset
  · rw [if_pos h5, bifTd]
    by_cases h6 : 1073741824 < s.Offset
    · exact .inl (.inr h6)
    · rcases h5 with h5 | h5
      · exact .inl (.inl h5)
      · refine .inr ?_
        rw [w64_id (x := s.Offset + (s.Counts.length : Int)) (by omega) (by omega), w64_id (by omega) (by omega)]; omega
  · rw [if_neg h5, bifFd]
    rw [w64_id (x := s.Offset + (s.Counts.length : Int)) (by omega) (by omega), w64_id (by omega) (by omega)]; omega
def histE (h : api_Hist) : Int :=
  if h.Scale < -10 ∨ 20 < h.Scale then 1
  else if sideE h.Pos ≠ 0 then sideE h.Pos
  else if sideE h.Neg ≠ 0 then sideE h.Neg
  else if tot h < 18446744073709551616 then 0 else 4
structure OkH (h : api_Hist) : Prop where
  s : I64 h.Scale
  po : I64 h.Pos.Offset
  no : I64 h.Neg.Offset
  pl : h.Pos.Counts.length ≤ 1000000
  nl : h.Neg.Counts.length ≤ 1000000
theorem Check_eq {h : api_Hist} (o : OkH h) : hist_Check h = some (histE h) := by
  have c1 := check_eq o.po o.pl
  have c2 := check_eq o.no o.nl
  have r0 : hist_Check_lp1 [h.Pos, h.Neg] ((0 : Nat) : Int) = if sideE h.Pos ≠ 0 then some (.out (.out (sideE h.Pos))) else some (.next ((1 : Nat) : Int)) := by
    unfold hist_Check_lp1
    rw [bifTd (by omega), idx_nat (by simp), bind_some]
    dsimp only [List.getElem_cons_zero]
    rw [c1, bind_some]
    by_cases e : sideE h.Pos = 0
    · rw [if_neg (fun h => h e), bifF (by simp [e]), w64_succ (by omega)]
    · rw [if_pos e, bifT (by simp [e])]; rfl
  have r1 : hist_Check_lp1 [h.Pos, h.Neg] ((1 : Nat) : Int) = if sideE h.Neg ≠ 0 then some (.out (.out (sideE h.Neg))) else some (.next ((2 : Nat) : Int)) := by
    unfold hist_Check_lp1
    rw [bifTd (by omega), idx_nat (by simp), bind_some]
    dsimp only [List.getElem_cons_succ, List.getElem_cons_zero]
    rw [c2, bind_some]
    by_cases e : sideE h.Neg = 0
    · rw [if_neg (fun h => h e), bifF (by simp [e]), w64_succ (by omega)]
    · rw [if_pos e, bifT (by simp [e])]; rfl
  have r2 : hist_Check_lp1 [h.Pos, h.Neg] ((2 : Nat) : Int) = some (.brk ()) := by
    unfold hist_Check_lp1
    rw [bifFd (by omega)]
  unfold hist_Check histE
  by_cases h1 : h.Scale < -10 ∨ 20 < h.Scale
  · rw [if_pos h1, bifT (by simpa using h1)]
  rw [if_neg h1, bifF (by simpa using h1), show hist_sides h = some [h.Pos, h.Neg] from rfl, bind_some]
  show flow (flow (loop (hist_Check_lp1 [h.Pos, h.Neg]) ((0 : Nat) : Int)) _) _ = _
  by_cases h2 : sideE h.Pos ≠ 0
  · rw [if_pos h2] at r0
    rw [if_pos h2, loop_out r0]; rfl
  rw [if_neg h2] at r0
  rw [if_neg h2, loop_next r0]
  by_cases h3 : sideE h.Neg ≠ 0
  · rw [if_pos h3] at r1
    rw [if_pos h3, loop_out r1]; rfl
  rw [if_neg h3] at r1
  rw [if_neg h3, loop_next r1, loop_brk r2, flow_go, flow_go, total_eq o.pl o.nl, bind_some]
  by_cases h4 : tot h < 18446744073709551616
  · rw [if_pos h4, if_pos h4]; rfl
  · rw [if_neg h4, if_neg h4]; rfl
theorem RCheck_eq {h : api_Hist} (o : OkH h) : ref08_Check h = some (histE h) := by
  unfold ref08_Check histE
  by_cases h1 : h.Scale < -10 ∨ 20 < h.Scale
  · rw [if_pos h1, bifT (by simpa using h1)]
  rw [if_neg h1, bifF (by simpa using h1), side_eq o.po o.pl, bind_some]
  by_cases h2 : sideE h.Pos ≠ 0
  · rw [if_pos h2, bifT (by simp [h2])]
  rw [if_neg h2, bifF (by simpa using h2), side_eq o.no o.nl, bind_some]
  by_cases h3 : sideE h.Neg ≠ 0
  · rw [if_pos h3, bifT (by simp [h3])]
  rw [if_neg h3, bifF (by simpa using h3), refTotal_eq o.pl o.nl, bind_some]
  by_cases h4 : tot h < 18446744073709551616
  · rw [if_pos h4, if_pos h4]; rfl
  · rw [if_neg h4, if_neg h4]; rfl
end Go.Lg
namespace Go.Lg
attribute [local irreducible] w64 toU64 toU8 shlU shrU shlB shrB
/-- more coarsely, by P: t is s with each P buckets one -/
structure Dn (P : Int) (s t : api_Side) : Prop where
  o : t.Offset = s.Offset / P
  l : (t.Counts.length : Int) = (s.Offset + s.Counts.length - 1) / P - s.Offset / P + 1
  su : ∀ j : Nat, su (t.Counts.take j) = su (s.Counts.take (P * (t.Offset + j) - s.Offset).toNat)
/-! ### the program's way -/
end Go.Lg
namespace Go.Lg
attribute [local irreducible] w64 toU64 toU8 shlU shrU shlB shrB
/-! ### ends that are nought -/
end Go.Lg
namespace Go.Lg
attribute [local irreducible] w64 toU64 toU8 shlU shrU shlB shrB
/-! ### right sides -/
structure RightS (s : api_Side) : Prop where
  len : s.Counts.length ≤ 160
  z : s.Counts.length = 0 → s.Offset = 0
  f : ∀ (h : 0 < s.Counts.length), s.Counts[0] ≠ 0
  e : ∀ (h : 0 < s.Counts.length), s.Counts[s.Counts.length - 1] ≠ 0
  lo : 0 < s.Counts.length → -1073741824 ≤ s.Offset
  hi : 0 < s.Counts.length → s.Offset + s.Counts.length - 1 ≤ 1073741824
theorem right_iff (s : api_Side) : sideE s = 0 ↔ RightS s := by
  unfold sideE
  by_cases h1 : 160 < s.Counts.length
  · rw [if_pos h1]; exact ⟨fun h => absurd h (by decide), fun h => by have := h.len; omega⟩
  rw [if_neg h1]
  by_cases h2 : s.Counts.length = 0
  · rw [if_pos h2]
    by_cases h3 : s.Offset = 0
    · rw [if_pos h3]; exact ⟨fun _ => ⟨by omega, fun _ => h3, fun h => by omega, fun h => by omega, fun h => by omega, fun h => by omega⟩, fun _ => rfl⟩
    · rw [if_neg h3]; exact ⟨fun h => absurd h (by decide), fun h => absurd (h.z h2) h3⟩
  rw [if_neg h2]
  by_cases h3 : s.Counts.getD 0 0 = 0 ∨ s.Counts.getD (s.Counts.length - 1) 0 = 0
  · rw [if_pos h3]
    rw [getD_lt (by omega), getD_lt (by omega)] at h3
    exact ⟨fun h => absurd h (by decide), fun h => h3.elim (fun e => absurd e (h.f (by omega))) (fun e => absurd e (h.e (by omega)))⟩
  rw [if_neg h3]
  rw [getD_lt (by omega), getD_lt (by omega)] at h3
  by_cases h5 : s.Offset < -1073741824 ∨ 1073741824 - ((s.Counts.length : Int) - 1) < s.Offset
  · rw [if_pos h5]
    exact ⟨fun h => absurd h (by decide), fun h => by have := h.lo (by omega); have := h.hi (by omega); omega⟩
  · rw [if_neg h5]
    exact ⟨fun _ => ⟨by omega, fun h => absurd h h2, fun _ => fun e => h3 (.inl e), fun _ => fun e => h3 (.inr e), fun _ => by omega, fun _ => by omega⟩, fun _ => rfl⟩
theorem RightS.off {s : api_Side} (h : RightS s) : -1100000000000 ≤ s.Offset ∧ s.Offset ≤ 1100000000000 := by
  by_cases h0 : s.Counts.length = 0
  · have := h.z h0; omega
  · have := h.lo (by omega); have := h.hi (by omega); omega
structure Good (h : api_Hist) : Prop where
  s1 : -10 ≤ h.Scale
  s2 : h.Scale ≤ 20
  p : RightS h.Pos
  n : RightS h.Neg
  t : tot h < 18446744073709551616
theorem good_iff (h : api_Hist) : histE h = 0 ↔ Good h := by
  unfold histE
  by_cases h1 : h.Scale < -10 ∨ 20 < h.Scale
  · rw [if_pos h1]; exact ⟨fun h => absurd h (by decide), fun g => by have := g.s1; have := g.s2; omega⟩
  rw [if_neg h1]
  by_cases h2 : sideE h.Pos ≠ 0
  · rw [if_pos h2]; exact ⟨fun h => absurd h h2, fun g => absurd ((right_iff _).2 g.p) h2⟩
  rw [if_neg h2]
  by_cases h3 : sideE h.Neg ≠ 0
  · rw [if_pos h3]; exact ⟨fun h => absurd h h3, fun g => absurd ((right_iff _).2 g.n) h3⟩
  rw [if_neg h3]
  by_cases h4 : tot h < 18446744073709551616
  · rw [if_pos h4]
    exact ⟨fun _ => ⟨by omega, by omega, (right_iff _).1 (Decidable.not_not.1 h2), (right_iff _).1 (Decidable.not_not.1 h3), h4⟩, fun _ => rfl⟩
  · rw [if_neg h4]; exact ⟨fun h => absurd h (by decide), fun g => absurd g.t h4⟩
theorem Good.ok {h : api_Hist} (g : Good h) : OkH h := by
  have := g.p.off; have := g.n.off; have := g.p.len; have := g.n.len; have := g.s1; have := g.s2
  exact ⟨by unfold I64; omega, by unfold I64; omega, by unfold I64; omega, by omega, by omega⟩
/-- a side's image, by 2^k -/
def DnS (k : Nat) (s t : api_Side) : Prop := (s.Counts.length = 0 ∧ t = ⟨0, []⟩) ∨ (0 < s.Counts.length ∧ Dn (2 ^ k) s t)
structure DnH (k : Nat) (h g : api_Hist) : Prop where
  s : g.Scale = h.Scale - k
  z : g.Zero = h.Zero
  p : DnS k h.Pos g.Pos
  n : DnS k h.Neg g.Neg
def H0 : api_Hist := ⟨0, 0, ⟨0, []⟩, ⟨0, []⟩⟩
/-! ### which are the same -/
theorem sameSide_self {s : api_Side} (hl : s.Counts.length ≤ 1000000) : ref08_SameSide s s = some true := by
  have key : ∀ (m i : Nat), i + m = s.Counts.length → loop (ref08_SameSide_lp1 s s) (i : Int) = some (.go ()) := by
    intro m
    induction m with
    | zero =>
      intro i hi
      refine loop_brk ?_
      unfold ref08_SameSide_lp1
      rw [bifFd (by omega)]
    | succ m ih =>
      intro i hi
      rw [loop_next (s' := ((i + 1 : Nat) : Int)), ih (i + 1) (by omega)]
      unfold ref08_SameSide_lp1
      rw [bifTd (by omega), idx_nat (by omega), bind_some, bind_some, bifF (by simp), lett_eq, w64_succ (by omega)]
  have h0 : loop (ref08_SameSide_lp1 s s) 0 = _ := key s.Counts.length 0 (by omega)
  unfold ref08_SameSide
  rw [bifF (by simp), h0]; rfl
/-! ### as coarse as it must be -/
end Go.Lg
namespace Go.Lg
attribute [local irreducible] w64 toU64 toU8 shlU shrU shlB shrB
/-! ### a bucket -/
def atS (s : api_Side) (i : Int) : UInt64 := if s.Offset ≤ i then s.Counts.getD (i - s.Offset).toNat 0 else 0
/-! ### answers that the document fixes -/
/-! ### the laws -/
theorem light_eq (h : api_Hist) : ref08_Light h = some (decide ((h.Pos.Counts.length : Int) ≤ 300) && decide ((h.Neg.Counts.length : Int) ≤ 300)) := rfl
structure Is (h : api_Hist) : Prop where
  s : I64 h.Scale
  po : I64 h.Pos.Offset
  no : I64 h.Neg.Offset
theorem Is.ok {h : api_Hist} (i : Is h) (a : (h.Pos.Counts.length : Int) ≤ 300) (b : (h.Neg.Counts.length : Int) ≤ 300) : OkH h := ⟨i.s, i.po, i.no, by omega, by omega⟩
theorem H0_good : Good H0 := ⟨by decide, by decide, (right_iff _).1 (by decide), (right_iff _).1 (by decide), by decide⟩
/-! ### any bucket of a side -/
end Go.Lg
namespace Go.Lg
noncomputable def fold_Merge_lp1 (r61 : api_Hist) (r62 : api_Hist) (r233 : Int) (x299 : List UInt64) : (List UInt64 × Int) → Option (Rnd (List UInt64 × Int) (List UInt64) (List UInt64)) := fun (c379, x382) =>
 bif decide (x382 < (x299.length : Int)) then
 (hist_At r61.Pos (w64 (r233 + x382))).bind fun r470 =>
 (hist_At r62.Pos (w64 (r233 + x382))).bind fun r486 =>
 (idx c379 x382).bind fun e498 =>
 lett ((r470 + r486)) fun t514 =>
 (setI c379 x382 t514).bind fun xs515 =>
 some (.next (xs515, w64 (x382 + 1)))
 else
 some (.brk c379)
noncomputable def fold_Merge_lp2 (r61 : api_Hist) (r62 : api_Hist) (r564 : Int) (x630 : List UInt64) : (List UInt64 × Int) → Option (Rnd (List UInt64 × Int) (List UInt64) (List UInt64)) := fun (c708, x711) =>
 bif decide (x711 < (x630.length : Int)) then
 (hist_At r61.Neg (w64 (r564 + x711))).bind fun r799 =>
 (hist_At r62.Neg (w64 (r564 + x711))).bind fun r815 =>
 (idx c708 x711).bind fun e827 =>
 lett ((r799 + r815)) fun t843 =>
 (setI c708 x711 t843).bind fun xs844 =>
 some (.next (xs844, w64 (x711 + 1)))
 else
 some (.brk c708)
noncomputable def fold_Merge (a0 : api_Hist) (a1 : api_Hist) : Option (api_Hist × Int) :=
 (fold_Level a0 a1).bind fun (r61, r62, r63) =>
 bif (!decide (r63 = 0)) then
 some ((api_Hist.mk 0 0 (api_Side.mk 0 []) (api_Side.mk 0 [])), r63)
 else
 (hist_Total r61).bind fun (r143, r144) =>
 (hist_Total r62).bind fun (r158, r159) =>
 lett ((add64S r143 r158 (0 : UInt64))) fun t168 =>
 lett ((add64C r143 r158 (0 : UInt64))) fun carry169 =>
 bif (!decide (carry169 = 0)) then
 some ((api_Hist.mk 0 0 (api_Side.mk 0 []) (api_Side.mk 0 [])), 4)
 else
 flow ((fold_cover r61.Pos r62.Pos).bind fun (r233, r234) =>
 bif decide (160 < r234) then
 outs (some ((api_Hist.mk 0 0 (api_Side.mk 0 []) (api_Side.mk 0 [])), 1))
 else
 bif decide (r234 = 0) then
 some (.go (0, []))
 else
 ((mk r234 (0 : UInt64)).bind fun t308 =>
 some t308).bind fun x299 =>
 (flow (loop (fold_Merge_lp1 r61 r62 r233 x299) (x299, 0)) fun c386 =>
 some c386).bind fun c371 =>
 some (.go (r233, c371))) fun (c203, c204) =>
 flow ((fold_cover r61.Neg r62.Neg).bind fun (r564, r565) =>
 bif decide (160 < r565) then
 outs (some ((api_Hist.mk 0 0 (api_Side.mk 0 []) (api_Side.mk 0 [])), 1))
 else
 bif decide (r565 = 0) then
 some (.go (0, []))
 else
 ((mk r565 (0 : UInt64)).bind fun t639 =>
 some t639).bind fun x630 =>
 (flow (loop (fold_Merge_lp2 r61 r62 r564 x630) (x630, 0)) fun c715 =>
 some c715).bind fun c700 =>
 some (.go (r564, c700))) fun (c531, c532) =>
 some ((api_Hist.mk r61.Scale (r61.Zero + r62.Zero) (api_Side.mk c203 c204) (api_Side.mk c531 c532)), 0)
end Go.Lg
namespace Go.Lg
attribute [local irreducible] w64 toU64 toU8 shlU shrU shlB shrB
/-! ### buckets -/
/-- none of its ends is empty -/
structure Tr (s : api_Side) : Prop where
  z : s.Counts.length = 0 → s.Offset = 0
  f : 0 < s.Counts.length → atS s s.Offset ≠ 0
  e : 0 < s.Counts.length → atS s (s.Offset + s.Counts.length - 1) ≠ 0
/-! ### two sides together -/
def loS (x y : api_Side) : Int := if x.Counts.length = 0 then y.Offset else if y.Counts.length = 0 then x.Offset else min x.Offset y.Offset
def hiS (x y : api_Side) : Int := if x.Counts.length = 0 then y.Offset + y.Counts.length else if y.Counts.length = 0 then x.Offset + x.Counts.length else max (x.Offset + x.Counts.length) (y.Offset + y.Counts.length)
structure Cov (x y : api_Side) : Prop where
  le : loS x y ≤ hiS x y
  b : -1073741824 ≤ loS x y ∧ hiS x y ≤ 1073741825
  cx : 0 < x.Counts.length → loS x y ≤ x.Offset ∧ x.Offset + x.Counts.length ≤ hiS x y
  cy : 0 < y.Counts.length → loS x y ≤ y.Offset ∧ y.Offset + y.Counts.length ≤ hiS x y
  lo : loS x y = hiS x y ∨ (0 < x.Counts.length ∧ loS x y = x.Offset) ∨ (0 < y.Counts.length ∧ loS x y = y.Offset)
  hi : loS x y = hiS x y ∨ (0 < x.Counts.length ∧ hiS x y = x.Offset + x.Counts.length) ∨ (0 < y.Counts.length ∧ hiS x y = y.Offset + y.Counts.length)
  z : loS x y = hiS x y ↔ x.Counts.length = 0 ∧ y.Counts.length = 0
end Go.Lg
namespace Go.Lg
attribute [local irreducible] w64 toU64 toU8 shlU shrU shlB shrB
/-! ### to one scale -/
structure Lev (a b x y : api_Hist) : Prop where
  ga : Good a
  gb : Good b
  dx : DnH (a.Scale - min a.Scale b.Scale).toNat a x
  dy : DnH (b.Scale - min a.Scale b.Scale).toNat b y
/-! ### put together -/
/-- a side of the sum, or that it is too wide -/
noncomputable def part (p : Option (Int × Int)) (F : Int → Int → Option (Flow (Int × List UInt64) (api_Hist × Int))) : Option (Flow (Int × List UInt64) (api_Hist × Int)) := p.bind fun (a, b) => F a b
end Go.Lg
namespace Go.Lg
attribute [local irreducible] w64 toU64 toU8 shlU shrU shlB shrB
/-! ### without empty ends -/
/-! ### the document's way to put together -/
end Go.Lg
namespace Go.Lg
attribute [local irreducible] w64 toU64 toU8 shlU shrU shlB shrB
/-! ### taken away -/
def enough (x y : api_Side) : Bool := (List.range y.Counts.length).all fun (k : Nat) => decide (y.Counts.getD k 0 ≤ atS x (y.Offset + k))
end Go.Lg
namespace Go.Lg
attribute [local irreducible] w64 toU64 toU8 shlU shrU shlB shrB
end Go.Lg
namespace Go.Lg
attribute [local irreducible] w64 toU64 toU8 shlU shrU shlB shrB
/-- how much lies below place i -/
def cum (s : api_Side) (i : Int) : Nat := su (s.Counts.take (i - s.Offset).toNat)
/-! ### what some histograms come to, at a scale -/
def sumN (f : api_Hist → Nat) (l : List api_Hist) : Nat := (l.map f).sum
def fac (x z : api_Hist) (i : Int) : Int := 2 ^ (x.Scale - z.Scale).toNat * i
structure Sums (l : List api_Hist) (z : api_Hist) : Prop where
  good : Good z
  all : ∀ x ∈ l, Good x ∧ z.Scale ≤ x.Scale
  zero : z.Zero.toNat = sumN (fun x => x.Zero.toNat) l
  pos : ∀ i, cum z.Pos i = sumN (fun x => cum x.Pos (fac x z i)) l
  neg : ∀ i, cum z.Neg i = sumN (fun x => cum x.Neg (fac x z i)) l
/-! ### what is taken away -/
end Go.Lg
namespace Go.Lg
noncomputable def num_Less (a0 : UInt64) (a1 : UInt64) : Option Bool :=
  some (fLess a0 a1)
noncomputable def ref05_Odd (a0 : UInt64) : Option Bool :=
 lett (((decide (((a0 / 4503599627370496) % 2048) = 2047)) && (!decide ((a0 % 4503599627370496) = 0)))) fun t12 =>
 some t12
noncomputable def ref05_Finite (a0 : UInt64) : Option Bool :=
 lett ((!decide (((a0 / 4503599627370496) % 2048) = 2047))) fun t11 =>
 some t11
noncomputable def ref05_Less (a0 : UInt64) (a1 : UInt64) : Option Bool :=
 (ref05_Odd a0).bind fun r11 =>
 (bif r11 then
 some true
 else
 (ref05_Odd a1).bind fun r27 =>
 some r27).bind fun x20 =>
 bif x20 then
 some false
 else
 lett ((a0 % 9223372036854775808)) fun x38 =>
 lett ((a1 % 9223372036854775808)) fun y39 =>
 bif ((decide (x38 = 0)) && (decide (y39 = 0))) then
 some false
 else
 bif ((decide (9223372036854775808 ≤ a0)) && (decide (9223372036854775808 ≤ a1))) then
 lett (decide (y39 < x38)) fun t45 =>
 some t45
 else
 bif ((decide (a0 < 9223372036854775808)) && (decide (a1 < 9223372036854775808))) then
 lett (decide (x38 < y39)) fun t49 =>
 some t49
 else
 lett (decide (9223372036854775808 ≤ a0)) fun t51 =>
 some t51
noncomputable def num_Finite (a0 : UInt64) : Option Bool :=
 lett ((!decide ((a0 &&& 9218868437227405312) = 9218868437227405312))) fun t11 =>
 some t11
end Go.Lg
namespace Go.Lg
end Go.Lg
namespace Go.Lg
open Ieee
/-! ### to the nearest, between two to the even one -/
/-- as m, in units of 2^c, so N: at multiples of u -/
def RepU (u m N c : Nat) : Prop := ∀ t : Nat, (u * t < m ↔ u * t * 2 ^ c < N) ∧ (u * t = m ↔ u * t * 2 ^ c = N)
end Go.Lg
namespace Go.Lg
open Ieee
attribute [local irreducible] w64 toU64 toU8 shlU shrU shlB shrB
/-! ### moved right, the last digit set if something went out -/
end Go.Lg
namespace Go.Lg
open Ieee
attribute [local irreducible] w64 toU64 toU8 shlU shrU shlB shrB
end Go.Lg
namespace Go.Lg
open Ieee
attribute [local irreducible] w64 toU64 toU8 shlU shrU shlB shrB
/-! ### what bits stand for -/
def fW (n : Nat) : Nat := if fE n = 0 then fM n else fM n + 4503599627370496
def fX (n : Nat) : Nat := if fE n = 0 then 1 else fE n
theorem read_eq {n : Nat} (h : n < 18446744073709551616) : double.read n =
    if fE n = 2047 then (if fM n = 0 then .infinity (fS n) else .nan (fS n) (fM n)) else .number (fS n) (fW n) ((fX n : Int) - 1075) := by
  have hsw : double.signWeight = 9223372036854775808 := by decide
  have hb : double.binade = 4503599627370496 := by decide
  have hinf : double.infRung = 9218868437227405312 := by decide
  have hl : double.leastPlace = -1074 := by decide
  have hs : (n / 9223372036854775808 % 2 == 1) = fS n := by
    unfold fS
    by_cases q : 9223372036854775808 ≤ n
    · rw [decide_eq_true q]; simp; omega
    · rw [decide_eq_false q]; simp; omega
  unfold Format.read
  simp only [hsw, hb, hinf, hl, hs]
  unfold fW fX fE fM
  by_cases h0 : n / 4503599627370496 % 2048 = 0
  · rw [if_pos (by omega), if_neg (by omega), if_pos h0, if_pos h0, show n % 9223372036854775808 = n % 4503599627370496 by omega]; rfl
  · rw [if_neg (by omega)]
    by_cases h1 : n / 4503599627370496 % 2048 = 2047
    · rw [if_neg (by omega), if_pos h1]
      by_cases h2 : n % 4503599627370496 = 0
      · rw [if_pos (by omega), if_pos h2]
      · rw [if_neg (by omega), if_neg h2, show n % 9223372036854775808 - 9218868437227405312 = n % 4503599627370496 by omega]
    · rw [if_pos (by omega), if_neg h1, if_neg h0, if_neg h0]
      congr 1
      · omega
      · omega
/-- two sizes at unit d, at least one of them whole -/
structure Two (m n X Y d : Nat) : Prop where
  h : (m * 2 ^ d = X ∧ m % 2 = 0 ∧ RepU 2 n Y d) ∨ (n * 2 ^ d = Y ∧ n % 2 = 0 ∧ RepU 2 m X d)
end Go.Lg
namespace Go.Lg
open Ieee
attribute [local irreducible] w64 toU64 toU8 shlU shrU shlB shrB
theorem nE (a : UInt64) : (a / 4503599627370496 % 2048).toNat = fE a.toNat := by
  rw [UInt64.toNat_mod, UInt64.toNat_div]; rfl
theorem nM5 (a : UInt64) : (a % 4503599627370496).toNat = fM a.toNat := by
  rw [UInt64.toNat_mod]; rfl
theorem fE_lt (n : Nat) : fE n < 2048 := by unfold fE; omega
theorem fM_lt (n : Nat) : fM n < 4503599627370496 := by unfold fM; omega
theorem ROdd_eq (a : UInt64) : ref05_Odd a = some (decide (fE a.toNat = 2047 ∧ fM a.toNat ≠ 0)) := by
  unfold ref05_Odd
  rw [lett_eq]
  congr 1
  rw [Bool.eq_iff_iff, Bool.and_eq_true, decide_eq_true_eq, decide_eq_true_eq, Bool.not_eq_true', decide_eq_false_iff_not, ← UInt64.toNat_inj, ← UInt64.toNat_inj, nE, nM5]
  exact Iff.rfl
theorem RFin_eq (a : UInt64) : ref05_Finite a = some (decide (fE a.toNat ≠ 2047)) := by
  unfold ref05_Finite
  rw [lett_eq]
  congr 1
  rw [Bool.eq_iff_iff, decide_eq_true_eq, Bool.not_eq_true', decide_eq_false_iff_not, ← UInt64.toNat_inj, nE]
  exact Iff.rfl
end Go.Lg
namespace Go.Lg
open Ieee
attribute [local irreducible] w64 toU64 toU8 shlU shrU shlB shrB
theorem signed_eq (s : Bool) (m k : Nat) : signed s m k = if s then -((m * 2 ^ k : Nat) : Int) else ((m * 2 ^ k : Nat) : Int) := by
  unfold signed
  rw [Nat.shiftLeft_eq]
theorem fW_facts (n : Nat) : fW n < 9007199254740992 ∧ (1 < fX n → 4503599627370496 ≤ fW n) ∧ 1 ≤ fX n ∧ (fW n = 0 → fE n = 0 ∧ fM n = 0) := by
  have h2 := fM_lt n
  unfold fW fX
  split <;> omega
end Go.Lg
namespace Go.Lg
open Ieee
attribute [local irreducible] w64 toU64 toU8 shlU shrU shlB shrB
end Go.Lg
namespace Go.Lg
open Ieee
attribute [local irreducible] w64 toU64 toU8 shlU shrU shlB shrB
theorem fW_congr {m n : Nat} (h : fE m = fE n) (h' : fM m = fM n) : fW m = fW n ∧ fX m = fX n := by
  unfold fW fX
  rw [h, h']
  exact ⟨rfl, rfl⟩
/-! ### which is below -/
/-- a finite float's size in the least unit -/
def fZ (n : Nat) : Nat := fW n * 2 ^ (fX n - 1)
theorem fZ_mono {m n : Nat} (hm : fE m ≠ 2047) (hn : fE n ≠ 2047) : (fZ m < fZ n ↔ m % 9223372036854775808 < n % 9223372036854775808) := by
  have key : ∀ {m n : Nat}, fE m ≠ 2047 → fE n ≠ 2047 → m % 9223372036854775808 < n % 9223372036854775808 → fZ m < fZ n := by
    intro m n hm hn h
    have a1 := fM_lt m; have a2 := fM_lt n; have b1 := fE_lt m; have b2 := fE_lt n
    have em : m % 9223372036854775808 = fE m * 4503599627370496 + fM m := by unfold fE fM; omega
    have en : n % 9223372036854775808 = fE n * 4503599627370496 + fM n := by unfold fE fM; omega
    rw [em, en] at h
    unfold fZ
    by_cases he : fX m = fX n
    · rw [he]
      have hp := Nat.two_pow_pos (fX n - 1)
      refine (Nat.mul_lt_mul_right hp).2 ?_
      unfold fX at he
      unfold fW
      split at he <;> split at he <;> simp only [*, if_true, if_false] <;> omega
    · have hlt : fX m < fX n := by
        unfold fX at *
        split <;> split <;> simp_all <;> omega
      have hn0 : fE n ≠ 0 := by
        intro e
        unfold fX at hlt
        rw [if_pos e] at hlt
        split at hlt <;> omega
      have hwn : 4503599627370496 ≤ fW n := by unfold fW; rw [if_neg hn0]; omega
      have hwm : fW m < 9007199254740992 := (fW_facts m).1
      have hfm : 1 ≤ fX m := (fW_facts m).2.2.1
      have e1 : 2 ^ (fX n - 1) = 2 ^ (fX m - 1) * 2 ^ (fX n - fX m) := by rw [← Nat.pow_add]; congr 1; omega
      have h2 : 2 ^ 1 ≤ 2 ^ (fX n - fX m) := Nat.pow_le_pow_right (by omega) (by omega)
      rw [Nat.pow_one] at h2
      have hp := Nat.two_pow_pos (fX m - 1)
      have l1 : fW m * 2 ^ (fX m - 1) < 9007199254740992 * 2 ^ (fX m - 1) := (Nat.mul_lt_mul_right hp).2 hwm
      have l2 : 4503599627370496 * (2 ^ (fX m - 1) * 2) ≤ fW n * (2 ^ (fX m - 1) * 2 ^ (fX n - fX m)) := Nat.mul_le_mul hwn (Nat.mul_le_mul_left _ h2)
      rw [e1]
      omega
  constructor
  · intro h
    apply Decidable.byContradiction
    intro q
    by_cases e : m % 9223372036854775808 = n % 9223372036854775808
    · have a : fE m = fE n := by unfold fE; omega
      have b : fM m = fM n := by unfold fM; omega
      obtain ⟨c, d⟩ := fW_congr a b
      unfold fZ at h
      rw [c, d] at h
      omega
    · have := key hn hm (by omega)
      omega
  · exact key hm hn
theorem fZ_scale (n : Nat) (B : Nat) (hB : 1 ≤ B) (h : B ≤ fX n) : fW n * 2 ^ (fX n - B) * 2 ^ (B - 1) = fZ n := by
  unfold fZ
  rw [Nat.mul_assoc, ← Nat.pow_add]
  congr 2; omega
theorem order_fin {a b : Nat} (ha : a < 18446744073709551616) (hb : b < 18446744073709551616) (fa : fE a ≠ 2047) (fb : fE b ≠ 2047) :
    (double.order a b = some .lt) ↔ ((if fS a then -(fZ a : Int) else (fZ a : Int)) < (if fS b then -(fZ b : Int) else (fZ b : Int))) := by
  have ra := read_eq ha
  have rb := read_eq hb
  rw [if_neg fa] at ra
  rw [if_neg fb] at rb
  have xa := (fW_facts a).2.2.1
  have xb := (fW_facts b).2.2.1
  unfold Format.order
  rw [ra, rb]
  unfold Datum.order
  have hbm : min ((fX a : Int) - 1075) ((fX b : Int) - 1075) = ((min (fX a) (fX b) : Nat) : Int) - 1075 := by omega
  simp only [hbm]
  rw [show ((fX a : Int) - 1075 - (((min (fX a) (fX b) : Nat) : Int) - 1075)).toNat = fX a - min (fX a) (fX b) by omega, show ((fX b : Int) - 1075 - (((min (fX a) (fX b) : Nat) : Int) - 1075)).toNat = fX b - min (fX a) (fX b) by omega, signed_eq, signed_eq]
  have s1 := fZ_scale a (min (fX a) (fX b)) (by omega) (by omega)
  have s2 := fZ_scale b (min (fX a) (fX b)) (by omega) (by omega)
  have hp := Nat.two_pow_pos (min (fX a) (fX b) - 1)
  generalize fW a * 2 ^ (fX a - min (fX a) (fX b)) = X at *
  generalize fW b * 2 ^ (fX b - min (fX a) (fX b)) = Y at *
  generalize 2 ^ (min (fX a) (fX b) - 1) = P at *
  rw [← s1, ← s2]
  have c1 : X * P < Y * P ↔ X < Y := Nat.mul_lt_mul_right hp
  have c2 : Y * P < X * P ↔ Y < X := Nat.mul_lt_mul_right hp
  have z1 : X * P = 0 ↔ X = 0 := by rw [Nat.mul_eq_zero]; omega
  have z2 : Y * P = 0 ↔ Y = 0 := by rw [Nat.mul_eq_zero]; omega
  rw [Option.some.injEq, Int.compare_eq_lt]
  generalize X * P = X' at *
  generalize Y * P = Y' at *
  cases fS a <;> cases fS b <;> simp only [if_true, if_false, Bool.false_eq_true] <;> omega
end Go.Lg
namespace Go.Lg
open Ieee
attribute [local irreducible] w64 toU64 toU8 shlU shrU shlB shrB
theorem less_odd {a b : UInt64} (h : fOdd a.toNat = true ∨ fOdd b.toNat = true) : fLess a b = false := by
  have ra := read_eq (UInt64.toNat_lt a)
  have rb := read_eq (UInt64.toNat_lt b)
  unfold fLess Format.order
  rcases h with h | h
  · have h := of_decide_eq_true h
    rw [if_pos h.1, if_neg h.2] at ra
    rw [ra]; rfl
  · have h := of_decide_eq_true h
    rw [if_pos h.1, if_neg h.2] at rb
    rw [rb]
    generalize double.read a.toNat = x
    cases x <;> rfl
def lessN (a b : Nat) : Bool :=
  if a % 9223372036854775808 = 0 ∧ b % 9223372036854775808 = 0 then false
  else if fS a = true ∧ fS b = true then decide (b % 9223372036854775808 < a % 9223372036854775808)
  else if fS a = false ∧ fS b = false then decide (a % 9223372036854775808 < b % 9223372036854775808)
  else fS a
theorem fLess_eq {a b : UInt64} (oa : fOdd a.toNat = false) (ob : fOdd b.toNat = false) : fLess a b = lessN a.toNat b.toNat := by
  have la := UInt64.toNat_lt a
  have lb := UInt64.toNat_lt b
  have oa := of_decide_eq_false oa
  have ob := of_decide_eq_false ob
  have ra := read_eq la
  have rb := read_eq lb
  have a1 := fM_lt a.toNat; have a2 := fE_lt a.toNat; have b1 := fM_lt b.toNat; have b2 := fE_lt b.toNat
  have em : a.toNat % 9223372036854775808 = fE a.toNat * 4503599627370496 + fM a.toNat := by unfold fE fM; omega
  have en : b.toNat % 9223372036854775808 = fE b.toNat * 4503599627370496 + fM b.toNat := by unfold fE fM; omega
  unfold fLess
  generalize a.toNat = m at *
  generalize b.toNat = n at *
  by_cases ia : fE m = 2047
  · have Ma : fM m = 0 := Decidable.byContradiction fun q => oa ⟨ia, q⟩
    rw [if_pos ia, if_pos Ma] at ra
    by_cases ib : fE n = 2047
    · have Mb : fM n = 0 := Decidable.byContradiction fun q => ob ⟨ib, q⟩
      rw [if_pos ib, if_pos Mb] at rb
      unfold Format.order lessN
      rw [ra, rb, em, en, ia, ib, Ma, Mb]
      cases fS m <;> cases fS n <;> decide
    · rw [if_neg ib] at rb
      unfold Format.order lessN
      rw [ra, rb, em, en, ia, Ma, if_neg (by omega)]
      cases fS m <;> cases fS n <;> simp [Datum.order] <;> omega
  · rw [if_neg ia] at ra
    by_cases ib : fE n = 2047
    · have Mb : fM n = 0 := Decidable.byContradiction fun q => ob ⟨ib, q⟩
      rw [if_pos ib, if_pos Mb] at rb
      unfold Format.order lessN
      rw [ra, rb, em, en, ib, Mb, if_neg (by omega)]
      cases fS m <;> cases fS n <;> simp [Datum.order] <;> omega
    · have ho := order_fin la lb ia ib
      have h1 := fZ_mono ia ib
      have h2 := fZ_mono ib ia
      have hz : ∀ k, fE k ≠ 2047 → (fZ k = 0 ↔ k % 9223372036854775808 = 0) := by
        intro k _
        have hp := Nat.two_pow_pos (fX k - 1)
        unfold fZ
        rw [Nat.mul_eq_zero]
        constructor
        · intro q
          rcases q with q | q
          · have := (fW_facts k).2.2.2 q
            unfold fE fM at this; omega
          · omega
        · intro q
          left
          have e : fE k = 0 := by unfold fE; omega
          have e2 : fM k = 0 := by unfold fM; omega
          unfold fW; rw [if_pos e, e2]
      have z1 := hz m ia
      have z2 := hz n ib
      clear em en
      rw [Bool.eq_iff_iff, beq_iff_eq, ho]
      unfold lessN
      generalize m % 9223372036854775808 = x at *
      generalize n % 9223372036854775808 = y at *
      generalize fZ m = X at *
      generalize fZ n = Y at *
      clear ho ra rb hz
      generalize fS m = s
      generalize fS n = t
      by_cases h0 : x = 0 ∧ y = 0
      · have hX := z1.2 h0.1
        have hY := z2.2 h0.2
        rw [if_pos h0, hX, hY]
        cases s <;> cases t <;> simp
      · rw [if_neg h0]
        cases s <;> cases t
        · rw [if_neg (by simp), if_neg (by simp), if_neg (by simp), if_pos ⟨rfl, rfl⟩, decide_eq_true_eq]; omega
        · rw [if_neg (by simp), if_pos rfl, if_neg (by simp), if_neg (by simp)]
          simp only [Bool.false_eq_true, iff_false]; omega
        · rw [if_pos rfl, if_neg (by simp), if_neg (by simp), if_neg (by simp)]
          simp only [iff_true]; omega
        · rw [if_pos rfl, if_pos rfl, if_pos ⟨rfl, rfl⟩, decide_eq_true_eq]; omega
theorem Less_eq (a b : UInt64) : ref05_Less a b = some (fLess a b) := by
  have n63 : (9223372036854775808 : UInt64).toNat = 9223372036854775808 := rfl
  have z0 : (0 : UInt64).toNat = 0 := rfl
  unfold ref05_Less
  rw [ROdd_eq, ROdd_eq, bind_some]
  by_cases oa : fOdd a.toNat = true
  · rw [less_odd (.inl oa), show decide (fE a.toNat = 2047 ∧ fM a.toNat ≠ 0) = true from oa, bifT rfl, bind_some, bifT rfl]
  rw [show decide (fE a.toNat = 2047 ∧ fM a.toNat ≠ 0) = false from Bool.eq_false_iff.2 oa, bifF rfl, bind_some, bind_some]
  by_cases ob : fOdd b.toNat = true
  · rw [less_odd (.inr ob), show decide (fE b.toNat = 2047 ∧ fM b.toNat ≠ 0) = true from ob, bifT rfl]
  rw [show decide (fE b.toNat = 2047 ∧ fM b.toNat ≠ 0) = false from Bool.eq_false_iff.2 ob, bifF rfl, fLess_eq (Bool.eq_false_iff.2 oa) (Bool.eq_false_iff.2 ob), lett_eq, lett_eq]
  have ea : (a % 9223372036854775808).toNat = a.toNat % 9223372036854775808 := by rw [UInt64.toNat_mod, n63]
  have eb : (b % 9223372036854775808).toNat = b.toNat % 9223372036854775808 := by rw [UInt64.toNat_mod, n63]
  unfold lessN
  by_cases h0 : a.toNat % 9223372036854775808 = 0 ∧ b.toNat % 9223372036854775808 = 0
  · rw [if_pos h0, bifT]
    rw [Bool.and_eq_true, decide_eq_true_eq, decide_eq_true_eq, ← UInt64.toNat_inj, ← UInt64.toNat_inj, ea, eb, z0]; exact h0
  rw [if_neg h0, bifF (by rw [← Bool.decide_and, decide_eq_false_iff_not, ← UInt64.toNat_inj, ← UInt64.toNat_inj, ea, eb, z0]; exact h0)]
  have sa : decide (9223372036854775808 ≤ a) = fS a.toNat := by unfold fS; rw [decide_eq_decide, UInt64.le_iff_toNat_le]; exact Iff.rfl
  have sb : decide (9223372036854775808 ≤ b) = fS b.toNat := by unfold fS; rw [decide_eq_decide, UInt64.le_iff_toNat_le]; exact Iff.rfl
  have ta : decide (a < 9223372036854775808) = !fS a.toNat := by
    unfold fS; rw [Bool.eq_iff_iff, decide_eq_true_eq, Bool.not_eq_true', decide_eq_false_iff_not, UInt64.lt_iff_toNat_lt, n63]; omega
  have tb : decide (b < 9223372036854775808) = !fS b.toNat := by
    unfold fS; rw [Bool.eq_iff_iff, decide_eq_true_eq, Bool.not_eq_true', decide_eq_false_iff_not, UInt64.lt_iff_toNat_lt, n63]; omega
  have l1 : decide (b % 9223372036854775808 < a % 9223372036854775808) = decide (b.toNat % 9223372036854775808 < a.toNat % 9223372036854775808) := by
    rw [decide_eq_decide, UInt64.lt_iff_toNat_lt, ea, eb]
  have l2 : decide (a % 9223372036854775808 < b % 9223372036854775808) = decide (a.toNat % 9223372036854775808 < b.toNat % 9223372036854775808) := by
    rw [decide_eq_decide, UInt64.lt_iff_toNat_lt, ea, eb]
  rw [sa, sb, ta, tb, l1, l2]
  cases fS a.toNat <;> cases fS b.toNat <;> rfl
end Go.Lg
namespace Go.Lg
attribute [local irreducible] w64 toU64 toU8 shlU shrU shlB shrB
end Go.Lg
namespace Go.Lg
open Ieee
attribute [local irreducible] w64 toU64 toU8 shlU shrU shlB shrB
theorem and_exp (n : Nat) : n &&& 9218868437227405312 = fE n * 4503599627370496 := by
  have h : n &&& (2047 <<< 52) = ((n >>> 52) &&& 2047) <<< 52 := by
    apply Nat.eq_of_testBit_eq
    intro i
    simp only [Nat.testBit_and, Nat.testBit_shiftLeft, Nat.testBit_shiftRight]
    by_cases q : 52 ≤ i
    · rw [decide_eq_true q, Bool.true_and, Bool.true_and, show 52 + (i - 52) = i by omega]
    · rw [decide_eq_false q, Bool.false_and, Bool.and_false, Bool.false_and]
  have e1 : (2047 <<< 52 : Nat) = 9218868437227405312 := by decide
  have e2 : (2 : Nat) ^ 52 = 4503599627370496 := by decide
  have e3 : (2047 : Nat) = 2 ^ 11 - 1 := by decide
  rw [e1] at h
  rw [h, e3, Nat.and_two_pow_sub_one_eq_mod, Nat.shiftLeft_eq, Nat.shiftRight_eq_div_pow, e2]; rfl
theorem numFinite_eq (a : UInt64) : num_Finite a = some (decide (fE a.toNat ≠ 2047)) := by
  unfold num_Finite
  rw [lett_eq]
  congr 1
  rw [Bool.eq_iff_iff, Bool.not_eq_true', decide_eq_false_iff_not, decide_eq_true_eq, ← UInt64.toNat_inj, UInt64.toNat_and, show (9218868437227405312 : UInt64).toNat = 9218868437227405312 from rfl, and_exp]; omega
end Go.Lg
namespace Go.Lg
structure api_Pair where
  Key : List UInt8
  Val : List UInt8
  deriving DecidableEq
structure api_Point where
  Name : List UInt8
  Attrs : List api_Pair
  Kind : Int
  Temp : Int
  Mono : Bool
  Start : Int
  Time : Int
  Int_ : Int
  Re : UInt64
  Im : UInt64
  Hist : api_Hist
  Flags : Int
  deriving DecidableEq
structure api_State where
  Some : Bool
  Start : Int
  Time : Int
  Int_ : Int
  Re : UInt64
  Im : UInt64
  Hist : api_Hist
  deriving DecidableEq
structure todelta_value where
  i : Int
  re : UInt64
  im : UInt64
  h : api_Hist
  deriving DecidableEq
structure ref15_Step where
  S : api_State
  P : api_Point
  E : Int
  deriving DecidableEq
noncomputable def label_small (a0 : UInt8) : Option Bool :=
 lett (((decide (97 ≤ a0)) && (decide (a0 ≤ 122)))) fun t12 =>
 some t12
noncomputable def label_isName_lp1 (a0 : List UInt8) : Int → Option (Rnd Int Unit Bool) := fun x36 =>
 bif decide (x36 < (a0.length : Int)) then
 (idx a0 x36).bind fun e50 =>
 (label_small e50).bind fun r63 =>
 bif ((((!r63) && ((decide (e50 < 48)) || (decide (57 < e50)))) && (!decide (e50 = 95))) && (!decide (e50 = 46))) then
 outr (some false)
 else
 some (.next (w64 (x36 + 1)))
 else
 some (.brk ())
noncomputable def label_isName (a0 : List UInt8) : Option Bool :=
 (bif ((decide (a0 = [])) || (decide (32 < (a0.length : Int)))) then
 some true
 else
 (idx a0 0).bind fun c19 =>
 (label_small c19).bind fun r20 =>
 some (!r20) : Option Bool).bind fun x12 =>
 bif x12 then
 some false
 else
 flow (loop (label_isName_lp1 a0) 0) fun (_ : Unit) =>
 some true
noncomputable def label_isValue_lp1 (a0 : List UInt8) : Int → Option (Rnd Int Unit Bool) := fun x19 =>
 bif decide (x19 < (a0.length : Int)) then
 (idx a0 x19).bind fun e27 =>
 flow ((lett (decide (e27 < 33)) fun t44 =>
 bif t44 then
 some t44
 else
 lett (decide (126 < e27)) fun t46 =>
 bif t46 then
 some t46
 else
 lett (decide (e27 = 61)) fun t48 =>
 bif t48 then
 some t48
 else
 lett (decide (e27 = 59)) fun t50 =>
 bif t50 then
 some t50
 else
 lett (decide (e27 = 44)) fun t52 =>
 some t52 : Option Bool).bind fun x41 =>
 bif x41 then
 outs (outr (some false))
 else
 some (.go ())) fun (_ : Unit) =>
 some (.next (w64 (x19 + 1)))
 else
 some (.brk ())
noncomputable def label_isValue (a0 : List UInt8) : Option Bool :=
 bif ((decide (a0 = [])) || (decide (32 < (a0.length : Int)))) then
 some false
 else
 flow (loop (label_isValue_lp1 a0) 0) fun (_ : Unit) =>
 some true
noncomputable def label_Check_lp2 (e40 : api_Pair) (t89 : List api_Pair) : Int → Option (Rnd Int Unit Int) := fun x109 =>
 bif decide (x109 < (t89.length : Int)) then
 (idx t89 x109).bind fun e123 =>
 (lett (decide (e123.Key = e40.Key)) fun t151 =>
 some t151 : Option Bool).bind fun x136 =>
 bif x136 then
 outr (some x109)
 else
 some (.next (w64 (x109 + 1)))
 else
 some (.brk ())
noncomputable def label_Check_lp1 (a1 : List api_Pair) : Int → Option (Rnd Int Unit Int) := fun x26 =>
 bif decide (x26 < (a1.length : Int)) then
 (idx a1 x26).bind fun e40 =>
 (label_isName e40.Key).bind fun r61 =>
 (bif (!r61) then
 some true
 else
 (label_isValue e40.Val).bind fun r78 =>
 some (!r78) : Option Bool).bind fun x70 =>
 bif x70 then
 outr (some 3)
 else
 (slc a1 0 x26).bind fun t89 =>
 ((flow (loop (label_Check_lp2 e40 t89) 0) fun (_ : Unit) =>
 some (-1) : Option Int).bind fun x103 =>
 lett (decide (0 ≤ x103)) fun t153 =>
 some t153 : Option Bool).bind fun x97 =>
 bif x97 then
 outr (some 8)
 else
 some (.next (w64 (x26 + 1)))
 else
 some (.brk ())
noncomputable def label_Check (a0 : List UInt8) (a1 : List api_Pair) : Option Int :=
 (label_isName a0).bind fun r12 =>
 bif (!r12) then
 some 3
 else
 bif decide (4 < (a1.length : Int)) then
 some 4
 else
 flow (loop (label_Check_lp1 a1) 0) fun (_ : Unit) =>
 some 0
noncomputable def point_kinds (a0 : api_Point) : Option Bool :=
 lett (decide (a0.Kind = 3)) fun t31 =>
 bif t31 then
 lett (decide (a0.Temp = 0)) fun t33 =>
 some t33
 else
 (lett (decide (a0.Kind = 1)) fun t38 =>
 bif t38 then
 some t38
 else
 lett (decide (a0.Kind = 2)) fun t40 =>
 bif t40 then
 some t40
 else
 lett (decide (a0.Kind = 4)) fun t42 =>
 bif t42 then
 some t42
 else
 lett (decide (a0.Kind = 5)) fun t44 =>
 some t44 : Option Bool).bind fun x35 =>
 bif x35 then
 lett (((decide (a0.Temp = 1)) || (decide (a0.Temp = 2)))) fun t47 =>
 some t47
 else
 some false
noncomputable def point_sum (a0 : api_Point) : Option Bool :=
 lett (((decide (a0.Kind = 1)) || (decide (a0.Kind = 2)))) fun t32 =>
 some t32
noncomputable def point_times (a0 : api_Point) : Option Bool :=
 bif ((decide (a0.Start < 0)) || (decide (4503599627370496 < a0.Time))) then
 some false
 else
 bif decide (a0.Kind = 3) then
 lett (decide (a0.Start = a0.Time)) fun t35 =>
 some t35
 else
 lett (decide (a0.Start < a0.Time)) fun t37 =>
 some t37
noncomputable def point_bare (a0 : api_Hist) : Option Bool :=
 lett ((((((decide (a0.Scale = 0)) && (decide (a0.Zero = 0))) && (decide (a0.Pos.Offset = 0))) && (decide (a0.Neg.Offset = 0))) && (decide (w64 ((a0.Pos.Counts.length : Int) + (a0.Neg.Counts.length : Int)) = 0)))) fun t32 =>
 some t32
noncomputable def point_own (a0 : api_Point) : Option Bool :=
 lett ((((decide (a0.Kind = 2)) || (decide (a0.Kind = 3))) || (decide (a0.Kind = 5)))) fun float33 =>
 lett (((!decide (a0.Kind = 1)) && (!decide (a0.Int_ = 0)))) fun t35 =>
 bif t35 then
 bif t35 then
 some false
 else
 some true
 else
 lett (((!float33) && (!decide (a0.Re = 0)))) fun t41 =>
 bif t41 then
 bif t41 then
 some false
 else
 some true
 else
 lett (((!decide (a0.Kind = 5)) && (!decide (a0.Im = 0)))) fun t47 =>
 bif t47 then
 bif t47 then
 some false
 else
 some true
 else
 (bif (!decide (a0.Kind = 4)) then
 (point_bare a0.Hist).bind fun r61 =>
 some (!r61)
 else
 some false : Option Bool).bind fun x52 =>
 bif x52 then
 bif x52 then
 some false
 else
 some true
 else
 lett (((decide (a0.Flags < 0)) || (decide (31 < a0.Flags)))) fun t76 =>
 bif t76 then
 some false
 else
 some true
noncomputable def point_Check (a0 : api_Point) : Option Int :=
 (label_Check a0.Name a0.Attrs).bind fun r32 =>
 bif (!decide (r32 = 0)) then
 some r32
 else
 (point_kinds a0).bind fun r49 =>
 lett ((!r49)) fun t58 =>
 bif t58 then
 some 14
 else
 ((bif a0.Mono then
 (point_sum a0).bind fun r78 =>
 some (!r78)
 else
 some false : Option Bool).bind fun x68 =>
 bif x68 then
 some x68
 else
 (point_times a0).bind fun r95 =>
 lett ((!r95)) fun t104 =>
 some t104 : Option Bool).bind fun x61 =>
 bif x61 then
 some 1
 else
 (point_own a0).bind fun r115 =>
 lett ((!r115)) fun t124 =>
 bif t124 then
 some 3
 else
 (bif (a0.Mono && (decide (a0.Kind = 2))) then
 (num_Finite a0.Re).bind fun r136 =>
 some (!r136)
 else
 some false : Option Bool).bind fun x129 =>
 bif x129 then
 some 11
 else
 (bif a0.Mono then
 (bif decide (a0.Int_ < 0) then
 some true
 else
 (num_Less a0.Re (0 : UInt64)).bind fun r162 =>
 some r162 : Option Bool).bind fun x155 =>
 some x155
 else
 some false : Option Bool).bind fun x148 =>
 bif x148 then
 some 1
 else
 lett (decide (a0.Kind = 4)) fun t174 =>
 bif t174 then
 (hist_Check a0.Hist).bind fun r182 =>
 some r182
 else
 some 0
def slices_Clone_api_Pair_api_Pair (a0 : List api_Pair) : Option (List api_Pair) := app [] a0
noncomputable def ref11_Light_lp1 (a0 : List api_Pair) : Int → Option (Rnd Int Unit Bool) := fun i14 =>
 bif decide (i14 < (a0.length : Int)) then
 (idx a0 i14).bind fun e22 =>
 (bif decide (100 < (e22.Key.length : Int)) then
 some true
 else
 (idx a0 i14).bind fun e38 =>
 some (decide (100 < (e38.Val.length : Int))) : Option Bool).bind fun x34 =>
 bif x34 then
 outr (some false)
 else
 lett (w64 (i14 + 1)) fun i52 =>
 some (.next i52)
 else
 some (.brk ())
noncomputable def ref11_Light (a0 : List api_Pair) : Option Bool :=
 bif decide (20 < (a0.length : Int)) then
 some false
 else
 flow (loop (ref11_Light_lp1 a0) 0) fun (_ : Unit) =>
 some true
noncomputable def ref12_Light (a0 : api_Point) : Option Bool :=
 (bif decide ((a0.Name.length : Int) ≤ 100) then
 (ref11_Light a0.Attrs).bind fun r39 =>
 some r39
 else
 some false : Option Bool).bind fun x31 =>
 (bif x31 then
 (ref08_Light a0.Hist).bind fun r60 =>
 some r60
 else
 some false : Option Bool).bind fun x48 =>
 some x48
noncomputable def ref12_Some_lp1 (a0 : List api_Point) : Int → Option (Rnd Int Unit Bool) := fun i14 =>
 bif decide (i14 < (a0.length : Int)) then
 (idx a0 i14).bind fun e29 =>
 (ref12_Light e29).bind fun r47 =>
 bif (!r47) then
 outr (some false)
 else
 lett (w64 (i14 + 1)) fun i58 =>
 some (.next i58)
 else
 some (.brk ())
noncomputable def ref12_Some (a0 : List api_Point) (a1 : Int) : Option Bool :=
 bif decide (a1 < (a0.length : Int)) then
 some false
 else
 flow (loop (ref12_Some_lp1 a0) 0) fun (_ : Unit) =>
 some true
noncomputable def tocum_Together_lp1 (a2 : Int) : (Int × UInt64 × Int × List UInt64 × Int × List UInt64 × Int × UInt64 × Int × List UInt64 × Int × List UInt64) → Option (Rnd (Int × UInt64 × Int × List UInt64 × Int × List UInt64 × Int × UInt64 × Int × List UInt64 × Int × List UInt64) Unit (api_Hist × Bool)) := fun (c139, c140, c141, c142, c145, c146, c150, c151, c152, c153, c156, c157) =>
 (fold_Merge (api_Hist.mk c139 c140 (api_Side.mk c141 c142) (api_Side.mk c145 c146)) (api_Hist.mk c150 c151 (api_Side.mk c152 c153) (api_Side.mk c156 c157))).bind fun (r176, r177) =>
 lett (decide (r177 = 4)) fun t210 =>
 bif t210 then
 outr (some ((api_Hist.mk 0 0 (api_Side.mk 0 []) (api_Side.mk 0 [])), false))
 else
 lett (((decide (r177 = 0)) && (decide ((max (r176.Pos.Counts.length : Int) (r176.Neg.Counts.length : Int)) ≤ a2)))) fun t228 =>
 bif t228 then
 outr (some (r176, true))
 else
 lett (decide (c139 = (-10))) fun t250 =>
 bif t250 then
 outr (some ((api_Hist.mk 0 0 (api_Side.mk 0 []) (api_Side.mk 0 [])), false))
 else
 (hist_Down (api_Hist.mk c139 c140 (api_Side.mk c141 c142) (api_Side.mk c145 c146)) 1).bind fun (r271, r272) =>
 (hist_Down (api_Hist.mk c150 c151 (api_Side.mk c152 c153) (api_Side.mk c156 c157)) 1).bind fun (r314, r315) =>
 some (.next (r271.Scale, r271.Zero, r271.Pos.Offset, r271.Pos.Counts, r271.Neg.Offset, r271.Neg.Counts, r314.Scale, r314.Zero, r314.Pos.Offset, r314.Pos.Counts, r314.Neg.Offset, r314.Neg.Counts))
noncomputable def tocum_Together (a0 : api_Hist) (a1 : api_Hist) (a2 : Int) : Option (api_Hist × Bool) :=
 (fold_Level a0 a1).bind fun (r61, r62, r63) =>
 bif (!decide (r63 = 0)) then
 some ((api_Hist.mk 0 0 (api_Side.mk 0 []) (api_Side.mk 0 [])), false)
 else
 flow (loop (tocum_Together_lp1 a2) (r61.Scale, r61.Zero, r61.Pos.Offset, r61.Pos.Counts, r61.Neg.Offset, r61.Neg.Counts, r62.Scale, r62.Zero, r62.Pos.Offset, r62.Pos.Counts, r62.Neg.Offset, r62.Neg.Counts)) fun (_ : Unit) => none
noncomputable def ref11_Name_lp1 (a0 : List UInt8) : Int → Option (Rnd Int Unit Bool) := fun i14 =>
 bif decide (i14 < (a0.length : Int)) then
 (idx a0 i14).bind fun c22 =>
 lett (((decide (97 ≤ c22)) && (decide (c22 ≤ 122)))) fun letter24 =>
 lett (((((decide (48 ≤ c22)) && (decide (c22 ≤ 57))) || (decide (c22 = 95))) || (decide (c22 = 46)))) fun other28 =>
 bif ((!letter24) && ((decide (i14 = 0)) || (!other28))) then
 outr (some false)
 else
 lett (w64 (i14 + 1)) fun i33 =>
 some (.next i33)
 else
 some (.brk ())
noncomputable def ref11_Name (a0 : List UInt8) : Option Bool :=
 bif ((decide ((a0.length : Int) < 1)) || (decide (32 < (a0.length : Int)))) then
 some false
 else
 flow (loop (ref11_Name_lp1 a0) 0) fun (_ : Unit) =>
 some true
noncomputable def ref11_Value_lp1 (a0 : List UInt8) : Int → Option (Rnd Int Unit Bool) := fun i14 =>
 bif decide (i14 < (a0.length : Int)) then
 (idx a0 i14).bind fun c22 =>
 bif (((((decide (c22 ≤ 32)) || (decide (127 ≤ c22))) || (decide (c22 = 61))) || (decide (c22 = 59))) || (decide (c22 = 44))) then
 outr (some false)
 else
 lett (w64 (i14 + 1)) fun i29 =>
 some (.next i29)
 else
 some (.brk ())
noncomputable def ref11_Value (a0 : List UInt8) : Option Bool :=
 bif ((decide ((a0.length : Int) < 1)) || (decide (32 < (a0.length : Int)))) then
 some false
 else
 flow (loop (ref11_Value_lp1 a0) 0) fun (_ : Unit) =>
 some true
noncomputable def ref11_Check_lp2 (a1 : List api_Pair) (i26 : Int) : Int → Option (Rnd Int Unit (Flow Unit (Rnd Int Unit Int))) := fun k98 =>
 bif decide (k98 < i26) then
 (idx a1 k98).bind fun e114 =>
 (idx a1 i26).bind fun e130 =>
 bif decide (e114.Key = e130.Key) then
 outr (outs (outr (some 8)))
 else
 lett (w64 (k98 + 1)) fun k144 =>
 some (.next k144)
 else
 some (.brk ())
noncomputable def ref11_Check_lp1 (a1 : List api_Pair) : Int → Option (Rnd Int Unit Int) := fun i26 =>
 bif decide (i26 < (a1.length : Int)) then
 (idx a1 i26).bind fun e41 =>
 (ref11_Name e41.Key).bind fun r53 =>
 (bif (!r53) then
 some true
 else
 (idx a1 i26).bind fun e69 =>
 (ref11_Value e69.Val).bind fun r82 =>
 some (!r82) : Option Bool).bind fun x62 =>
 bif x62 then
 outr (some 3)
 else
 flow (flow (loop (ref11_Check_lp2 a1 i26) 0) fun (_ : Unit) =>
 some (.go ())) fun (_ : Unit) =>
 lett (w64 (i26 + 1)) fun i145 =>
 some (.next i145)
 else
 some (.brk ())
noncomputable def ref11_Check (a0 : List UInt8) (a1 : List api_Pair) : Option Int :=
 (ref11_Name a0).bind fun r12 =>
 bif (!r12) then
 some 3
 else
 bif decide (4 < (a1.length : Int)) then
 some 4
 else
 flow (loop (ref11_Check_lp1 a1) 0) fun (_ : Unit) =>
 some 0
noncomputable def ref12_none (a0 : api_Hist) : Option Bool :=
 (ref08_Same a0 (api_Hist.mk 0 0 (api_Side.mk 0 []) (api_Side.mk 0 []))).bind fun r28 =>
 some r28
noncomputable def ref12_Check (a0 : api_Point) : Option Int :=
 (ref11_Check a0.Name a0.Attrs).bind fun r32 =>
 bif (!decide (r32 = 0)) then
 some r32
 else
 bif ((decide (a0.Kind < 1)) || (decide (5 < a0.Kind))) then
 some 14
 else
 bif (((decide (a0.Kind = 3)) && (!decide (a0.Temp = 0))) || (((!decide (a0.Kind = 3)) && (!decide (a0.Temp = 1))) && (!decide (a0.Temp = 2)))) then
 some 14
 else
 bif ((a0.Mono && (!decide (a0.Kind = 1))) && (!decide (a0.Kind = 2))) then
 some 1
 else
 bif ((((decide (a0.Start < 0)) || (decide (4503599627370496 < a0.Time))) || ((decide (a0.Kind = 3)) && (!decide (a0.Start = a0.Time)))) || ((!decide (a0.Kind = 3)) && (decide (a0.Time ≤ a0.Start)))) then
 some 1
 else
 (bif (((!decide (a0.Kind = 1)) && (!decide (a0.Int_ = 0))) || ((!decide (a0.Kind = 5)) && (!decide (a0.Im = 0)))) then
 some true
 else
 (bif (!decide (a0.Kind = 4)) then
 (ref12_none a0.Hist).bind fun r85 =>
 some (!r85)
 else
 some false : Option Bool).bind fun x74 =>
 some x74 : Option Bool).bind fun x67 =>
 bif x67 then
 some 3
 else
 bif (((((decide (a0.Kind = 1)) || (decide (a0.Kind = 4))) && (!decide (a0.Re = 0))) || (decide (a0.Flags < 0))) || (decide (31 < a0.Flags))) then
 some 3
 else
 (bif (a0.Mono && (decide (a0.Kind = 2))) then
 (ref05_Finite a0.Re).bind fun r111 =>
 some (!r111)
 else
 some false : Option Bool).bind fun x104 =>
 bif x104 then
 some 11
 else
 (bif (a0.Mono && (decide (a0.Kind = 2))) then
 (ref05_Less a0.Re (0 : UInt64)).bind fun r131 =>
 some r131
 else
 some false : Option Bool).bind fun x124 =>
 bif (x124 || ((a0.Mono && (decide (a0.Kind = 1))) && (decide (a0.Int_ < 0)))) then
 some 1
 else
 bif decide (a0.Kind = 4) then
 (ref08_Check a0.Hist).bind fun r158 =>
 some r158
 else
 some 0
noncomputable def ref11_Same_lp1 (a0 : List api_Pair) (a1 : List api_Pair) : Int → Option (Rnd Int Unit Bool) := fun i15 =>
 bif decide (i15 < (a0.length : Int)) then
 (idx a0 i15).bind fun e32 =>
 (idx a1 i15).bind fun e45 =>
 bif (!(decide (e32.Key = e45.Key) && (decide (e32.Val = e45.Val) && true))) then
 outr (some false)
 else
 lett (w64 (i15 + 1)) fun i61 =>
 some (.next i61)
 else
 some (.brk ())
noncomputable def ref11_Same (a0 : List api_Pair) (a1 : List api_Pair) : Option Bool :=
 bif (!decide ((a0.length : Int) = (a1.length : Int))) then
 some false
 else
 flow (loop (ref11_Same_lp1 a0 a1) 0) fun (_ : Unit) =>
 some true
noncomputable def ref11_Sorted_lp2 (a0 : List api_Pair) (out12 : List api_Pair) (i15 : Int) : Int → Option (Rnd Int Int Int) := fun k40 =>
 (bif decide (0 < k40) then
 (idx out12 (w64 (k40 - 1))).bind fun e79 =>
 (idx a0 i15).bind fun e107 =>
 some (sLess e107.Key e79.Key)
 else
 some false).bind fun x65 =>
 bif x65 then
 lett (w64 (k40 - 1)) fun k141 =>
 some (.next k141)
 else
 some (.brk k40)
noncomputable def ref11_Sorted_lp1 (a0 : List api_Pair) : (List api_Pair × Int) → Option (Rnd (List api_Pair × Int) (List api_Pair) (List api_Pair)) := fun (out12, i15) =>
 bif decide (i15 < (a0.length : Int)) then
 lett ((out12.length : Int)) fun k33 =>
 (flow (loop (ref11_Sorted_lp2 a0 out12 i15) k33) fun k44 =>
 some k44 : Option Int).bind fun k34 =>
 (slc out12 0 k34).bind fun t142 =>
 (app [] t142).bind fun xs146 =>
 (idx a0 i15).bind fun e153 =>
 (app xs146 [e153]).bind fun xs172 =>
 (slc out12 k34 (out12.length : Int)).bind fun t179 =>
 (app xs172 t179).bind fun xs189 =>
 lett (w64 (i15 + 1)) fun i196 =>
 some (.next (xs189, i196))
 else
 some (.brk out12)
noncomputable def ref11_Sorted (a0 : List api_Pair) : Option (List api_Pair) :=
 flow (loop (ref11_Sorted_lp1 a0) ([], 0)) fun out19 =>
 some out19
noncomputable def ref12_Same (a0 : api_Point) (a1 : api_Point) : Option Bool :=
 (bif (!decide (a0.Name = a1.Name)) then
 some true
 else
 (ref11_Sorted a0.Attrs).bind fun r110 =>
 (ref11_Sorted a1.Attrs).bind fun r125 =>
 (ref11_Same r110 r125).bind fun r138 =>
 some (!r138)).bind fun x79 =>
 bif x79 then
 some false
 else
 bif (((((!decide (a0.Kind = a1.Kind)) || (!decide (a0.Temp = a1.Temp))) || (!decide (a0.Mono = a1.Mono))) || (!decide (a0.Start = a1.Start))) || (!decide (a0.Time = a1.Time))) then
 some false
 else
 (bif ((((decide (a0.Int_ = a1.Int_)) && (decide (a0.Re = a1.Re))) && (decide (a0.Im = a1.Im))) && (decide (a0.Flags = a1.Flags))) then
 (ref08_Same a0.Hist a1.Hist).bind fun r190 =>
 some r190
 else
 some false : Option Bool).bind fun x169 =>
 some x169
def rep_api_Pair : Rep api_Pair := Rep.via (Rep.pair Rep.s Rep.s) fun d => (d.Key, d.Val)
theorem flat_api_Pair : Flat rep_api_Pair := Flat.via (Flat.pair Flat.s Flat.s) _
def rep_api_Point : Rep api_Point := Rep.via (Rep.pair Rep.s (Rep.pair (Rep.sl rep_api_Pair) (Rep.pair Rep.i (Rep.pair Rep.i (Rep.pair Rep.B (Rep.pair Rep.i (Rep.pair Rep.i (Rep.pair Rep.i (Rep.pair Rep.u (Rep.pair Rep.u (Rep.pair rep_api_Hist Rep.i))))))))))) fun d => (d.Name, d.Attrs, d.Kind, d.Temp, d.Mono, d.Start, d.Time, d.Int_, d.Re, d.Im, d.Hist, d.Flags)
end Go.Lg
namespace Go.Lg
attribute [local irreducible] w64 toU64 toU8 shlU shrU shlB shrB
/-! ### a loop that looks at one after the other -/
def firstE {ρ : Type} (e : Nat → Option ρ) : Nat → Nat → Option ρ
  | 0, _ => none
  | m + 1, i => match e i with
    | some r => some r
    | none => firstE e m (i + 1)
def rndE {ρ : Type} (i : Nat) : Option ρ → Rnd Int Unit ρ
  | some r => .out r
  | none => .next ((i + 1 : Nat) : Int)
def flowE {ρ : Type} : Option ρ → Flow Unit ρ
  | some r => .out r
  | none => .go ()
theorem scan_loop {ρ : Type} {f : Int → Option (Rnd Int Unit ρ)} {n : Nat} (e : Nat → Option ρ) (hs : ∀ i : Nat, i < n → f (i : Int) = some (rndE i (e i))) (he : f (n : Int) = some (.brk ())) : ∀ m i : Nat, i + m = n → loop f (i : Int) = some (flowE (firstE e m i))
  | 0, i, h => by
    have : i = n := by omega
    subst this
    rw [loop_brk he]; rfl
  | m + 1, i, h => by
    have h1 := hs i (by omega)
    unfold firstE
    cases hc : e i with
    | some r => rw [hc] at h1; rw [loop_out h1]; rfl
    | none => rw [hc] at h1; rw [loop_next h1]; exact scan_loop e hs he m (i + 1) (by omega)
theorem scan0 {ρ : Type} {f : Int → Option (Rnd Int Unit ρ)} {n : Nat} (e : Nat → Option ρ) (hs : ∀ i : Nat, i < n → f (i : Int) = some (rndE i (e i))) (he : f (n : Int) = some (.brk ())) : loop f 0 = some (flowE (firstE e n 0)) :=
  scan_loop e hs he n 0 (by omega)
theorem firstE_none {ρ : Type} {e : Nat → Option ρ} : ∀ m i, firstE e m i = none ↔ ∀ j, i ≤ j → j < i + m → e j = none
  | 0, i => ⟨fun _ j h1 h2 => by omega, fun _ => rfl⟩
  | m + 1, i => by
    unfold firstE
    cases hc : e i with
    | some r =>
      refine ⟨fun h => by simp at h, fun h => ?_⟩
      rw [h i (Nat.le_refl _) (by omega)] at hc; cases hc
    | none =>
      rw [show (match (none : Option ρ) with | some r => some r | none => firstE e m (i + 1)) = firstE e m (i + 1) from rfl, firstE_none m (i + 1)]
      constructor
      · intro h j h1 h2
        by_cases e1 : j = i
        · subst e1; exact hc
        · exact h j (by omega) (by omega)
      · intro h j h1 h2
        exact h j (by omega) (by omega)
theorem firstE_const {ρ : Type} {e : Nat → Option ρ} {r : ρ} (h : ∀ i, e i = none ∨ e i = some r) : ∀ m i, firstE e m i = none ∨ firstE e m i = some r
  | 0, _ => .inl rfl
  | m + 1, i => by
    unfold firstE
    rcases h i with h1 | h1
    · rw [h1]; exact firstE_const h m (i + 1)
    · rw [h1]; exact .inr rfl
def orE {ρ : Type} (o : Option ρ) (d : Option ρ) : Option ρ := match o with
  | some r => some r
  | none => d
theorem flow_E {ρ : Type} (o : Option ρ) (F : Unit → Option ρ) : flow (some (flowE o)) F = orE o (F ()) := by cases o <;> rfl
/-! ### a name, a value -/
def low (c : UInt8) : Bool := decide (97 ≤ c) && decide (c ≤ 122)
def oth (c : UInt8) : Bool := ((decide (48 ≤ c) && decide (c ≤ 57)) || decide (c = 95)) || decide (c = 46)
def bad (c : UInt8) : Bool := (((decide (c ≤ 32) || decide (127 ≤ c)) || decide (c = 61)) || decide (c = 59)) || decide (c = 44)
def nameOk (l : List UInt8) : Bool := decide (0 < l.length) && decide (l.length ≤ 32) && low (l.getD 0 0) && l.all fun c => low c || oth c
def valueOk (l : List UInt8) : Bool := decide (0 < l.length) && decide (l.length ≤ 32) && l.all fun c => !bad c
theorem all_first {α : Type} {l : List α} {p : α → Bool} {e : Nat → Option Bool} (h : ∀ i (hi : i < l.length), e i = if p l[i] then none else some false) : orE (firstE e l.length 0) (some true) = some (l.all p) := by
  by_cases ha : l.all p = true
  · have : firstE e l.length 0 = none := (firstE_none _ _).2 fun j _ hj => by
      have hj' : j < l.length := by omega
      rw [h j hj', if_pos (List.all_eq_true.1 ha _ (List.getElem_mem hj'))]
    rw [this, ha]; rfl
  · have h2 : firstE e l.length 0 ≠ none := fun hn => ha (List.all_eq_true.2 fun c hc => by
      obtain ⟨j, hj, rfl⟩ := List.getElem_of_mem hc
      have := (firstE_none _ _).1 hn j (by omega) (by omega)
      rw [h j hj] at this
      by_cases hp : p l[j] = true
      · exact hp
      · rw [if_neg hp] at this; cases this)
    have h3 : ∀ m i, i + m ≤ l.length → firstE e m i = none ∨ firstE e m i = some false := by
      intro m
      induction m with
      | zero => intro i _; exact .inl rfl
      | succ m ih =>
        intro i hi
        unfold firstE
        rw [h i (by omega)]
        by_cases hp : p (l[i]'(by omega)) = true
        · rw [if_pos hp]; exact ih (i + 1) (by omega)
        · rw [if_neg hp]; exact .inr rfl
    rcases h3 l.length 0 (by omega) with h4 | h4
    · exact absurd h4 h2
    · rw [h4]; simp at ha; simp [orE, ha]
theorem isName_eq (l : List UInt8) : label_isName l = some (nameOk l) := by
  unfold label_isName nameOk
  by_cases h : l.length = 0 ∨ 32 < l.length
  · rw [bifT (by
      rw [Bool.or_eq_true, decide_eq_true_eq, decide_eq_true_eq]
      rcases h with h | h
      · exact .inl (List.eq_nil_of_length_eq_zero h)
      · exact .inr (by omega)), bind_some, cond_true]
    rcases h with h | h
    · rw [decide_eq_false (p := 0 < l.length) (by omega)]; rfl
    · rw [decide_eq_false (p := l.length ≤ 32) (by omega), Bool.and_false]; rfl
  · have h0 : 0 < l.length := by omega
    rw [bifF (by
      rw [Bool.or_eq_false_iff, decide_eq_false_iff_not, decide_eq_false_iff_not]
      exact ⟨fun e => by rw [e] at h0; simp at h0, by omega⟩), idx_0 h0, bind_some]
    unfold label_small
    rw [lett_eq, bind_some, bind_some, decide_eq_true h0, decide_eq_true (p := l.length ≤ 32) (by omega), getD_lt h0]
    change (bif !low l[0] then _ else _) = _
    cases hl : low l[0] with
    | false => simp
    | true =>
      rw [Bool.not_true, cond_false, scan0 (n := l.length) (fun i => if (low (l.getD i 0) || oth (l.getD i 0)) = true then none else some false), flow_E, all_first (p := fun c => low c || oth c)]
      · simp
      · intro i hi; rw [getD_lt hi]
      · intro i hi
        unfold label_isName_lp1 label_small
        rw [bifTd (by omega), idx_nat hi, bind_some, lett_eq, bind_some, getD_lt hi]
        generalize l[i] = c
        have e : ((((!(decide (97 ≤ c) && decide (c ≤ 122))) && ((decide (c < 48)) || (decide (57 < c)))) && (!decide (c = 95))) && (!decide (c = 46))) = !(low c || oth c) := by
          unfold low oth
          have e1 : decide (c < 48) = !decide (48 ≤ c) := by simp [UInt8.lt_iff_toNat_lt, UInt8.le_iff_toNat_le, ← decide_not]
          have e2 : decide (57 < c) = !decide (c ≤ 57) := by simp [UInt8.lt_iff_toNat_lt, UInt8.le_iff_toNat_le, ← decide_not]
          rw [e1, e2]
          cases decide (97 ≤ c) <;> cases decide (c ≤ 122) <;> cases decide (48 ≤ c) <;> cases decide (c ≤ 57) <;> cases decide (c = 95) <;> cases decide (c = 46) <;> rfl
        rw [e]
        cases (low c || oth c)
        · rfl
        · rw [Bool.not_true, cond_false, w64_succ (by omega), if_pos rfl]; rfl
      · unfold label_isName_lp1
        rw [bifFd (by omega)]
theorem rName_eq (l : List UInt8) : ref11_Name l = some (nameOk l) := by
  unfold ref11_Name nameOk
  by_cases h : l.length = 0 ∨ 32 < l.length
  · rw [bifT (by rw [Bool.or_eq_true, decide_eq_true_eq, decide_eq_true_eq]; omega)]
    rcases h with h | h
    · rw [decide_eq_false (p := 0 < l.length) (by omega)]; rfl
    · rw [decide_eq_false (p := l.length ≤ 32) (by omega), Bool.and_false]; rfl
  · have h0 : 0 < l.length := by omega
    rw [bifF (by rw [Bool.or_eq_false_iff, decide_eq_false_iff_not, decide_eq_false_iff_not]; omega), decide_eq_true h0, decide_eq_true (p := l.length ≤ 32) (by omega), getD_lt h0]
    have hs : ∀ i : Nat, i < l.length → ref11_Name_lp1 l (i : Int) = some (rndE i (if (low (l.getD i 0) || (!decide (i = 0) && oth (l.getD i 0))) = true then none else some false)) := by
      intro i hi
      unfold ref11_Name_lp1
      rw [bifTd (by omega), idx_nat hi, bind_some, lett_eq, lett_eq, getD_lt hi]
      generalize l[i] = c
      have e : ((!(decide (97 ≤ c) && decide (c ≤ 122))) && ((decide ((i : Int) = 0)) || (!(((decide (48 ≤ c) && decide (c ≤ 57)) || decide (c = 95)) || decide (c = 46))))) = !(low c || (!decide (i = 0) && oth c)) := by
        unfold low oth
        rw [show decide ((i : Int) = 0) = decide (i = 0) by rw [decide_eq_decide]; omega]
        cases decide (97 ≤ c) <;> cases decide (c ≤ 122) <;> cases decide (48 ≤ c) <;> cases decide (c ≤ 57) <;> cases decide (c = 95) <;> cases decide (c = 46) <;> cases decide (i = 0) <;> rfl
      rw [e]
      cases (low c || (!decide (i = 0) && oth c))
      · rfl
      · rw [Bool.not_true, cond_false, lett_eq, w64_succ (by omega), if_pos rfl]; rfl
    rw [scan0 (n := l.length) _ hs (by unfold ref11_Name_lp1; rw [bifFd (by omega)]), flow_E]
    match l, h0 with
    | c :: cs, _ =>
      rw [List.length_cons]
      unfold firstE
      rw [show (c :: cs).getD 0 0 = c from rfl, List.getElem_cons_zero]
      cases hl : low c with
      | false => simp [orE]
      | true =>
        simp only [Bool.true_or, if_true, Bool.true_and, List.all_cons, hl]
        have := all_first (l := cs) (p := fun c => low c || oth c) (e := fun i => if (low (cs.getD i 0) || oth (cs.getD i 0)) = true then none else some false) (fun i hi => by rw [getD_lt hi])
        rw [← this]
        have hshift : ∀ m i, firstE (fun i => if (low ((c :: cs).getD i 0) || (!decide (i = 0) && oth ((c :: cs).getD i 0))) = true then none else some false) m (i + 1) = firstE (fun i => if (low (cs.getD i 0) || oth (cs.getD i 0)) = true then none else some false) m i := by
          intro m
          induction m with
          | zero => intro i; rfl
          | succ m ih =>
            intro i
            unfold firstE
            rw [ih (i + 1), List.getD_cons_succ, show (!decide (i + 1 = 0)) = true by simp, Bool.true_and]
        rw [hshift]
theorem isValue_eq (l : List UInt8) : label_isValue l = some (valueOk l) := by
  unfold label_isValue valueOk
  by_cases h : l.length = 0 ∨ 32 < l.length
  · rw [bifT (by
      rw [Bool.or_eq_true, decide_eq_true_eq, decide_eq_true_eq]
      rcases h with h | h
      · exact .inl (List.eq_nil_of_length_eq_zero h)
      · exact .inr (by omega))]
    rcases h with h | h
    · rw [decide_eq_false (p := 0 < l.length) (by omega)]; rfl
    · rw [decide_eq_false (p := l.length ≤ 32) (by omega), Bool.and_false]; rfl
  · have h0 : 0 < l.length := by omega
    rw [bifF (by
      rw [Bool.or_eq_false_iff, decide_eq_false_iff_not, decide_eq_false_iff_not]
      exact ⟨fun e => by rw [e] at h0; simp at h0, by omega⟩), decide_eq_true h0, decide_eq_true (p := l.length ≤ 32) (by omega),
      scan0 (n := l.length) (fun i => if (!bad (l.getD i 0)) = true then none else some false), flow_E, all_first (p := fun c => !bad c)]
    · simp
    · intro i hi; rw [getD_lt hi]
    · intro i hi
      unfold label_isValue_lp1
      rw [bifTd (by omega), idx_nat hi, bind_some, getD_lt hi]
      generalize l[i] = c
      have e : (lett (decide (c < 33)) fun t44 =>
 bif t44 then
 some t44
 else
 lett (decide (126 < c)) fun t46 =>
 bif t46 then
 some t46
 else
 lett (decide (c = 61)) fun t48 =>
 bif t48 then
 some t48
 else
 lett (decide (c = 59)) fun t50 =>
 bif t50 then
 some t50
 else
 lett (decide (c = 44)) fun t52 =>
 some t52 : Option Bool) = some (bad c) := by
        unfold bad
        have e1 : decide (c < 33) = decide (c ≤ 32) := by rw [decide_eq_decide, UInt8.lt_iff_toNat_lt, UInt8.le_iff_toNat_le]; exact Nat.lt_succ_iff
        have e2 : decide (126 < c) = decide (127 ≤ c) := by rw [decide_eq_decide, UInt8.lt_iff_toNat_lt, UInt8.le_iff_toNat_le]; exact Iff.rfl
        rw [lett_eq, lett_eq, lett_eq, lett_eq, lett_eq, e1, e2]
        cases decide (c ≤ 32) <;> cases decide (127 ≤ c) <;> cases decide (c = 61) <;> cases decide (c = 59) <;> cases decide (c = 44) <;> rfl
      rw [e, bind_some]
      cases bad c
      · rw [cond_false, flow_go, w64_succ (by omega)]; rfl
      · rfl
    · unfold label_isValue_lp1
      rw [bifFd (by omega)]
theorem rValue_eq (l : List UInt8) : ref11_Value l = some (valueOk l) := by
  unfold ref11_Value valueOk
  by_cases h : l.length = 0 ∨ 32 < l.length
  · rw [bifT (by rw [Bool.or_eq_true, decide_eq_true_eq, decide_eq_true_eq]; omega)]
    rcases h with h | h
    · rw [decide_eq_false (p := 0 < l.length) (by omega)]; rfl
    · rw [decide_eq_false (p := l.length ≤ 32) (by omega), Bool.and_false]; rfl
  · have h0 : 0 < l.length := by omega
    rw [bifF (by rw [Bool.or_eq_false_iff, decide_eq_false_iff_not, decide_eq_false_iff_not]; omega), decide_eq_true h0, decide_eq_true (p := l.length ≤ 32) (by omega),
      scan0 (n := l.length) (fun i => if (!bad (l.getD i 0)) = true then none else some false), flow_E, all_first (p := fun c => !bad c)]
    · simp
    · intro i hi; rw [getD_lt hi]
    · intro i hi
      unfold ref11_Value_lp1
      rw [bifTd (by omega), idx_nat hi, bind_some, getD_lt hi]
      generalize l[i] = c
      change (bif bad c then _ else _) = _
      cases bad c
      · rw [cond_false, lett_eq, w64_succ (by omega)]; rfl
      · rfl
    · unfold ref11_Value_lp1
      rw [bifFd (by omega)]
end Go.Lg
namespace Go.Lg
attribute [local irreducible] w64 toU64 toU8 shlU shrU shlB shrB
def P0 : api_Pair := ⟨[], []⟩
def dupB (l : List api_Pair) (i : Nat) : Bool := decide (∃ k, k < i ∧ (l.getD k P0).Key = (l.getD i P0).Key)
/-- what is wrong with the i-th attribute -/
def pairE (l : List api_Pair) (i : Nat) : Option Int :=
  if (nameOk (l.getD i P0).Key && valueOk (l.getD i P0).Val) = true then (if dupB l i = true then some 8 else none) else some 3
def labelE (n : List UInt8) (l : List api_Pair) : Int :=
  if nameOk n = false then 3 else if 4 < l.length then 4 else (firstE (pairE l) l.length 0).getD 0
theorem getD_take {α : Type} (l : List α) {k i : Nat} (d : α) (h : k < i) : (l.take i).getD k d = l.getD k d := by
  simp only [List.getD_eq_getElem?_getD, List.getElem?_take, if_pos h]
theorem first_ex {ρ : Type} {e : Nat → Option ρ} : ∀ m i, firstE e m i ≠ none → ∃ j, i ≤ j ∧ j < i + m ∧ firstE e m i = e j ∧ e j ≠ none
  | 0, i, h => absurd rfl h
  | m + 1, i, h => by
    unfold firstE at *
    cases hc : e i with
    | some r => exact ⟨i, Nat.le_refl _, by omega, by rw [hc], by rw [hc]; simp⟩
    | none =>
      rw [hc] at h
      obtain ⟨j, h1, h2, h3, h4⟩ := first_ex m (i + 1) h
      exact ⟨j, by omega, by omega, h3, h4⟩
theorem dup_lp {e40 : api_Pair} {t : List api_Pair} (ht : t.length ≤ 1000) :
    ((flow (loop (label_Check_lp2 e40 t) 0) fun (_ : Unit) => some (-1) : Option Int).bind fun x103 =>
 lett (decide (0 ≤ x103)) fun t153 => some t153) = some (decide (∃ k, k < t.length ∧ (t.getD k P0).Key = e40.Key)) := by
  have hs : ∀ i : Nat, i < t.length → label_Check_lp2 e40 t (i : Int) = some (rndE i (if (t.getD i P0).Key = e40.Key then some (i : Int) else none)) := by
    intro i hi
    unfold label_Check_lp2
    rw [bifTd (by omega), idx_nat hi, bind_some, lett_eq, bind_some, getD_lt hi]
    by_cases h : t[i].Key = e40.Key
    · rw [bifTd h, if_pos h]; rfl
    · rw [bifFd h, if_neg h, w64_succ (by omega)]; rfl
  rw [scan0 (n := t.length) _ hs (by unfold label_Check_lp2; rw [bifFd (by omega)]), flow_E]
  by_cases hc : firstE (fun i => if (t.getD i P0).Key = e40.Key then some (i : Int) else none) t.length 0 = none
  · rw [hc]
    unfold orE
    dsimp only
    rw [bind_some, lett_eq, decide_eq_false (p := (0 : Int) ≤ -1) (by omega), decide_eq_false]
    rintro ⟨k, hk, he⟩
    have := (firstE_none _ _).1 hc k (by omega) (by omega)
    rw [if_pos he] at this; cases this
  · obtain ⟨j, h1, h2, h3, h4⟩ := first_ex _ _ hc
    rw [h3]
    by_cases hk : (t.getD j P0).Key = e40.Key
    · rw [if_pos hk]
      unfold orE
      dsimp only
      rw [bind_some, lett_eq, decide_eq_true (p := (0 : Int) ≤ (j : Int)) (by omega), decide_eq_true ⟨j, by omega, hk⟩]
    · rw [if_neg hk] at h4; exact absurd rfl h4
theorem label_eq (n : List UInt8) (l : List api_Pair) : label_Check n l = some (labelE n l) := by
  unfold label_Check labelE
  rw [isName_eq, bind_some]
  cases hn : nameOk n with
  | false => rfl
  | true =>
    rw [Bool.not_true, cond_false, if_neg (by simp)]
    by_cases h4 : 4 < l.length
    · rw [bifTd (by omega), if_pos h4]
    · rw [bifFd (by omega), if_neg h4]
      have hs : ∀ i : Nat, i < l.length → label_Check_lp1 l (i : Int) = some (rndE i (pairE l i)) := by
        intro i hi
        have htl : (l.take i).length = i := by rw [List.length_take]; omega
        unfold label_Check_lp1 pairE
        rw [bifTd (by omega), idx_nat hi, bind_some, isName_eq, bind_some, isValue_eq, bind_some, getD_lt hi]
        have e1 : (bif (!nameOk l[i].Key) then some true else some (!valueOk l[i].Val) : Option Bool) = some (!(nameOk l[i].Key && valueOk l[i].Val)) := by cases nameOk l[i].Key <;> rfl
        rw [e1, bind_some]
        cases hp : (nameOk l[i].Key && valueOk l[i].Val) with
        | false => rfl
        | true =>
          have hsl : slc l 0 (i : Int) = some (l.take i) := by rw [show (0 : Int) = ((0 : Nat) : Int) from rfl, slc_nat (by omega) (by omega), List.drop_zero]
          rw [Bool.not_true, cond_false, hsl, bind_some, dup_lp (by omega), bind_some, if_pos rfl]
          have e2 : decide (∃ k, k < (l.take i).length ∧ ((l.take i).getD k P0).Key = l[i].Key) = dupB l i := by
            unfold dupB
            rw [decide_eq_decide, htl]
            constructor
            · rintro ⟨k, h1, h2⟩; exact ⟨k, h1, by rw [getD_take l P0 h1] at h2; rw [h2, getD_lt hi]⟩
            · rintro ⟨k, h1, h2⟩; exact ⟨k, h1, by rw [getD_take l P0 h1]; rw [h2, getD_lt hi]⟩
          rw [e2]
          cases dupB l i
          · rw [cond_false, w64_succ (by omega)]; rfl
          · rfl
      rw [scan0 (n := l.length) _ hs (by unfold label_Check_lp1; rw [bifFd (by omega)]), flow_E]
      cases firstE (pairE l) l.length 0 <;> rfl
theorem rlabel_eq (n : List UInt8) (l : List api_Pair) : ref11_Check n l = some (labelE n l) := by
  unfold ref11_Check labelE
  rw [rName_eq, bind_some]
  cases hn : nameOk n with
  | false => rfl
  | true =>
    rw [Bool.not_true, cond_false, if_neg (by simp)]
    by_cases h4 : 4 < l.length
    · rw [bifTd (by omega), if_pos h4]
    · rw [bifFd (by omega), if_neg h4]
      have hs : ∀ i : Nat, i < l.length → ref11_Check_lp1 l (i : Int) = some (rndE i (pairE l i)) := by
        intro i hi
        unfold ref11_Check_lp1 pairE
        rw [bifTd (by omega), idx_nat hi, bind_some, rName_eq, bind_some, bind_some, rValue_eq, bind_some, getD_lt hi]
        have e1 : (bif (!nameOk l[i].Key) then some true else some (!valueOk l[i].Val) : Option Bool) = some (!(nameOk l[i].Key && valueOk l[i].Val)) := by cases nameOk l[i].Key <;> rfl
        rw [e1, bind_some]
        cases hp : (nameOk l[i].Key && valueOk l[i].Val) with
        | false => rfl
        | true =>
          have hk : ∀ k : Nat, k < i → ref11_Check_lp2 l (i : Int) (k : Int) = some (rndE k (if (l.getD k P0).Key = (l.getD i P0).Key then some (Flow.out (Rnd.out 8)) else none)) := by
            intro k hk
            unfold ref11_Check_lp2
            rw [bifTd (by omega), idx_nat (by omega), bind_some, idx_nat hi, bind_some, getD_lt (show k < l.length by omega), getD_lt hi]
            by_cases h : (l[k]'(by omega)).Key = l[i].Key
            · rw [bifTd h, if_pos h]; rfl
            · rw [bifFd h, if_neg h, lett_eq, w64_succ (by omega)]; rfl
          rw [Bool.not_true, cond_false, if_pos rfl, scan0 (n := i) _ hk (by unfold ref11_Check_lp2; rw [bifFd (by omega)]), flow_E]
          by_cases hc : firstE (fun k => if (l.getD k P0).Key = (l.getD i P0).Key then some (Flow.out (Rnd.out 8) : Flow Unit (Rnd Int Unit Int)) else none) i 0 = none
          · rw [hc]
            have : dupB l i = false := decide_eq_false (by
              rintro ⟨k, h1, h2⟩
              have := (firstE_none _ _).1 hc k (by omega) (by omega)
              rw [if_pos h2] at this; cases this)
            rw [this]
            unfold orE
            dsimp only
            rw [flow_go, lett_eq, w64_succ (by omega)]; rfl
          · obtain ⟨j, h1, h2, h3, h5⟩ := first_ex _ _ hc
            rw [h3]
            by_cases hkk : (l.getD j P0).Key = (l.getD i P0).Key
            · have : dupB l i = true := decide_eq_true ⟨j, by omega, hkk⟩
              rw [if_pos hkk, this]; rfl
            · rw [if_neg hkk] at h5; exact absurd rfl h5
      rw [scan0 (n := l.length) _ hs (by unfold ref11_Check_lp1; rw [bifFd (by omega)]), flow_E]
      cases firstE (pairE l) l.length 0 <;> rfl
end Go.Lg
namespace Go.Lg
attribute [local irreducible] w64 toU64 toU8 shlU shrU shlB shrB
theorem sameSide_eq {a b : api_Side} (hl : a.Counts.length ≤ 1000000) : ref08_SameSide a b = some (decide (a = b)) := by
  by_cases h : a = b
  · subst h; rw [sameSide_self hl, decide_eq_true rfl]
  · rw [decide_eq_false h]
    unfold ref08_SameSide
    by_cases h1 : a.Offset = b.Offset ∧ a.Counts.length = b.Counts.length
    · have hs : ∀ i : Nat, i < a.Counts.length → ref08_SameSide_lp1 a b (i : Int) = some (rndE i (if a.Counts.getD i 0 = b.Counts.getD i 0 then none else some false)) := by
        intro i hi
        unfold ref08_SameSide_lp1
        rw [bifTd (by omega), idx_nat hi, bind_some, idx_nat (by omega), bind_some, getD_lt hi, getD_lt (show i < b.Counts.length by omega)]
        by_cases hc : a.Counts[i] = b.Counts[i]'(by omega)
        · rw [bifF (by rw [decide_eq_true hc]; rfl), if_pos hc, lett_eq, w64_succ (by omega)]; rfl
        · rw [bifT (by rw [decide_eq_false hc]; rfl), if_neg hc]; rfl
      rw [bifF (by rw [decide_eq_true h1.1, decide_eq_true (by omega)]; rfl), scan0 (n := a.Counts.length) _ hs (by unfold ref08_SameSide_lp1; rw [bifFd (by omega)]), flow_E]
      rcases firstE_const (r := false) (e := fun i => if a.Counts.getD i 0 = b.Counts.getD i 0 then none else some false) (fun i => by
        by_cases hc : a.Counts.getD i 0 = b.Counts.getD i 0
        · exact .inl (if_pos hc)
        · exact .inr (if_neg hc)) a.Counts.length 0 with hn | hn
      · refine absurd ?_ h
        have hc : a.Counts = b.Counts := by
          refine List.ext_getElem h1.2 fun i hi hi' => ?_
          have := (firstE_none _ _).1 hn i (by omega) (by omega)
          rw [getD_lt hi, getD_lt hi'] at this
          by_cases hc : a.Counts[i] = b.Counts[i]
          · exact hc
          · rw [if_neg hc] at this; cases this
        cases a; cases b; simp_all
      · rw [hn]; rfl
    · rw [bifT]
      rw [Bool.or_eq_true, Bool.not_eq_true', Bool.not_eq_true', decide_eq_false_iff_not, decide_eq_false_iff_not]
      by_cases h2 : a.Offset = b.Offset
      · exact .inr fun h3 => h1 ⟨h2, by omega⟩
      · exact .inl h2
theorem sameH_eq {a b : api_Hist} (hp : a.Pos.Counts.length ≤ 1000000) (hn : a.Neg.Counts.length ≤ 1000000) : ref08_Same a b = some (decide (a = b)) := by
  unfold ref08_Same
  rw [sameSide_eq hp, sameSide_eq hn, bind_some, bind_some]
  by_cases h1 : a.Scale = b.Scale ∧ a.Zero = b.Zero
  · rw [bifT (by rw [decide_eq_true h1.1, decide_eq_true h1.2]; rfl), bind_some]
    by_cases h2 : a.Pos = b.Pos
    · rw [decide_eq_true h2, cond_true, bind_some]
      congr 1
      rw [decide_eq_decide]
      cases a; cases b; simp_all
    · rw [decide_eq_false h2, cond_false, bind_some, decide_eq_false]
      rintro rfl; exact h2 rfl
  · rw [bifF, bind_some, cond_false, bind_some, decide_eq_false]
    · rintro rfl; exact h1 ⟨rfl, rfl⟩
    · rw [Bool.and_eq_false_iff, decide_eq_false_iff_not, decide_eq_false_iff_not]
      by_cases h2 : a.Scale = b.Scale
      · exact .inr fun h3 => h1 ⟨h2, h3⟩
      · exact .inl h2
theorem bare_eq {h : api_Hist} (hp : h.Pos.Counts.length ≤ 1000000) (hn : h.Neg.Counts.length ≤ 1000000) : point_bare h = some (decide (h = H0)) := by
  unfold point_bare
  rw [lett_eq, w64_id (by omega) (by omega)]
  congr 1
  rw [Bool.eq_iff_iff]
  simp only [Bool.and_eq_true, decide_eq_true_eq]
  constructor
  · rintro ⟨⟨⟨⟨h1, h2⟩, h3⟩, h4⟩, h5⟩
    obtain ⟨sc, z, ⟨po, pc⟩, ⟨no, nc⟩⟩ := h
    dsimp only at *
    have e1 : pc = [] := List.eq_nil_of_length_eq_zero (by omega)
    have e2 : nc = [] := List.eq_nil_of_length_eq_zero (by omega)
    subst h1 h2 h3 h4 e1 e2; rfl
  · rintro rfl; exact ⟨⟨⟨⟨rfl, rfl⟩, rfl⟩, rfl⟩, rfl⟩
theorem none_eq {h : api_Hist} (hp : h.Pos.Counts.length ≤ 1000000) (hn : h.Neg.Counts.length ≤ 1000000) : ref12_none h = some (decide (h = H0)) := by
  unfold ref12_none
  have := sameH_eq (a := h) (b := H0) hp hn
  have this' : ref08_Same h ⟨0, 0, ⟨0, []⟩, ⟨0, []⟩⟩ = _ := this
  rw [this', bind_some]
theorem samePairs_self (l : List api_Pair) (hl : l.length ≤ 1000) : ref11_Same l l = some true := by
  unfold ref11_Same
  rw [bifF (by simp), scan0 (n := l.length) (fun _ => none) (fun i hi => by
    unfold ref11_Same_lp1
    rw [bifTd (by omega), idx_nat hi, bind_some, bind_some, bifF (by simp), lett_eq, w64_succ (by omega)]; rfl) (by unfold ref11_Same_lp1; rw [bifFd (by omega)]), flow_E,
    (firstE_none _ _).2 (fun _ _ _ => rfl)]; rfl
end Go.Lg
namespace Go.Lg
attribute [local irreducible] w64 toU64 toU8 shlU shrU shlB shrB
abbrev KindP (p : api_Point) : Prop := (p.Kind = 3 ∧ p.Temp = 0) ∨ ((p.Kind = 1 ∨ p.Kind = 2 ∨ p.Kind = 4 ∨ p.Kind = 5) ∧ (p.Temp = 1 ∨ p.Temp = 2))
abbrev TimeP (p : api_Point) : Prop := (0 ≤ p.Start ∧ p.Time ≤ 4503599627370496) ∧ ((p.Kind = 3 ∧ p.Start = p.Time) ∨ (p.Kind ≠ 3 ∧ p.Start < p.Time))
abbrev OwnP (p : api_Point) : Prop := (p.Kind = 1 ∨ p.Int_ = 0) ∧ ((p.Kind = 2 ∨ p.Kind = 3 ∨ p.Kind = 5) ∨ p.Re = 0) ∧ (p.Kind = 5 ∨ p.Im = 0) ∧ (p.Kind = 4 ∨ p.Hist = H0) ∧ (0 ≤ p.Flags ∧ p.Flags ≤ 31)
def finB (a : UInt64) : Bool := decide (fE a.toNat ≠ 2047)
/-- what is wrong with a point first -/
def chkE (p : api_Point) : Int :=
  if labelE p.Name p.Attrs ≠ 0 then labelE p.Name p.Attrs
  else if ¬ KindP p then 14
  else if (p.Mono = true ∧ ¬ (p.Kind = 1 ∨ p.Kind = 2)) ∨ ¬ TimeP p then 1
  else if ¬ OwnP p then 3
  else if (p.Mono = true ∧ p.Kind = 2) ∧ finB p.Re = false then 11
  else if p.Mono = true ∧ (p.Int_ < 0 ∨ fLess p.Re 0 = true) then 1
  else if p.Kind = 4 then histE p.Hist else 0
structure OkP (p : api_Point) : Prop where
  h : OkH p.Hist
theorem kinds_eq (p : api_Point) : point_kinds p = some (decide (KindP p)) := by
  unfold point_kinds KindP
  simp only [lett_eq]
  by_cases h3 : p.Kind = 3
  · simp [h3]
  · by_cases h1 : p.Kind = 1
    · simp [h1]
    · by_cases h2 : p.Kind = 2
      · simp [h2]
      · by_cases h4 : p.Kind = 4
        · simp [h4]
        · by_cases h5 : p.Kind = 5
          · simp [h5]
          · simp [h1, h2, h3, h4, h5]
theorem times_eq (p : api_Point) : point_times p = some (decide (TimeP p)) := by
  unfold point_times TimeP
  simp only [lett_eq]
  by_cases h : p.Start < 0 ∨ 4503599627370496 < p.Time
  · rw [bifT (by simpa using h), decide_eq_false (by omega)]
  · rw [bifF (by simpa using h)]
    by_cases h3 : p.Kind = 3
    · rw [bifTd h3]; congr 1; rw [decide_eq_decide]; omega
    · rw [bifFd h3]; congr 1; rw [decide_eq_decide]; omega
theorem own_eq {p : api_Point} (o : OkH p.Hist) : point_own p = some (decide (OwnP p)) := by
  unfold point_own OwnP
  simp only [lett_eq]
  rw [bare_eq o.pl o.nl, bind_some]
  by_cases h1 : p.Kind = 1 ∨ p.Int_ = 0
  · rw [bifF (by rcases h1 with h | h <;> simp [h])]
    by_cases h2 : (p.Kind = 2 ∨ p.Kind = 3 ∨ p.Kind = 5) ∨ p.Re = 0
    · rw [bifF (by rcases h2 with (h | h | h) | h <;> simp [h])]
      by_cases h3 : p.Kind = 5 ∨ p.Im = 0
      · rw [bifF (by rcases h3 with h | h <;> simp [h])]
        by_cases h4 : p.Kind = 4 ∨ p.Hist = H0
        · have e : (bif (!decide (p.Kind = 4)) then some (!decide (p.Hist = H0)) else some false : Option Bool) = some false := by
            rcases h4 with h | h
            · rw [bifF (by rw [decide_eq_true h]; rfl)]
            · rw [decide_eq_true h]; cases (!decide (p.Kind = 4)) <;> rfl
          rw [e, bind_some, cond_false]
          by_cases h5 : p.Flags < 0 ∨ 31 < p.Flags
          · rw [bifT (by simpa using h5), decide_eq_false (by omega)]
          · rw [bifF (by simpa using h5), decide_eq_true]; exact ⟨h1, h2, h3, h4, by omega⟩
        · have e : (bif (!decide (p.Kind = 4)) then some (!decide (p.Hist = H0)) else some false : Option Bool) = some true := by
            rw [bifT (by rw [decide_eq_false (fun h => h4 (.inl h))]; rfl), decide_eq_false (fun h => h4 (.inr h))]; rfl
          rw [e, bind_some, cond_true, cond_true, decide_eq_false (fun h => h4 h.2.2.2.1)]
      · have e : ((!decide (p.Kind = 5)) && (!decide (p.Im = 0))) = true := by rw [decide_eq_false (fun h => h3 (.inl h)), decide_eq_false (fun h => h3 (.inr h))]; rfl
        rw [e, cond_true, cond_true, decide_eq_false (fun h => h3 h.2.2.1)]
    · have e : ((!(((decide (p.Kind = 2)) || (decide (p.Kind = 3))) || (decide (p.Kind = 5)))) && (!decide (p.Re = 0))) = true := by
        rw [decide_eq_false (fun h => h2 (.inl (.inl h))), decide_eq_false (fun h => h2 (.inl (.inr (.inl h)))), decide_eq_false (fun h => h2 (.inl (.inr (.inr h)))), decide_eq_false (fun h => h2 (.inr h))]; rfl
      rw [e, cond_true, cond_true, decide_eq_false (fun h => h2 h.2.1)]
  · have e : ((!decide (p.Kind = 1)) && (!decide (p.Int_ = 0))) = true := by rw [decide_eq_false (fun h => h1 (.inl h)), decide_eq_false (fun h => h1 (.inr h))]; rfl
    rw [e, cond_true, cond_true, decide_eq_false (fun h => h1 h.1)]
theorem less_00 : fLess 0 0 = false := by decide +kernel
theorem chk_eq {p : api_Point} (o : OkH p.Hist) : point_Check p = some (chkE p) := by
  unfold point_Check chkE
  rw [label_eq, bind_some]
  by_cases h1 : labelE p.Name p.Attrs = 0
  · rw [bifF (by rw [decide_eq_true h1]; rfl), if_neg (by simpa using h1), kinds_eq, bind_some, lett_eq]
    by_cases h2 : KindP p
    · rw [bifF (by rw [decide_eq_true h2]; rfl), if_neg (fun h => h h2)]
      have e1 : (((bif p.Mono then (point_sum p).bind fun r78 => some (!r78) else some false : Option Bool).bind fun x68 =>
 bif x68 then
 some x68
 else
 (point_times p).bind fun r95 =>
 lett ((!r95)) fun t104 =>
 some t104) : Option Bool) = some (decide ((p.Mono = true ∧ ¬ (p.Kind = 1 ∨ p.Kind = 2)) ∨ ¬ TimeP p)) := by
        unfold point_sum
        rw [times_eq, bind_some, lett_eq, lett_eq, bind_some]
        have fin : (!decide (TimeP p)) = decide ((p.Mono = true ∧ ¬ (p.Kind = 1 ∨ p.Kind = 2)) ∨ ¬ TimeP p) ∨ (p.Mono = true ∧ ¬ (p.Kind = 1 ∨ p.Kind = 2)) := by
          by_cases hb : p.Mono = true ∧ ¬ (p.Kind = 1 ∨ p.Kind = 2)
          · exact .inr hb
          · refine .inl ?_
            by_cases hT : TimeP p
            · rw [decide_eq_true hT, decide_eq_false (fun h => h.elim hb (fun h => h hT))]; rfl
            · rw [decide_eq_false hT, decide_eq_true (.inr hT)]; rfl
        rcases fin with hf | hf
        · rw [← hf]
          cases hm : p.Mono with
          | false => rfl
          | true =>
            rw [cond_true, bind_some]
            by_cases hk : p.Kind = 1 ∨ p.Kind = 2
            · rw [bifF (by rcases hk with h | h <;> simp [h])]
            · rw [hf, decide_eq_true (p := (p.Mono = true ∧ ¬ (p.Kind = 1 ∨ p.Kind = 2)) ∨ ¬ TimeP p) (.inl ⟨hm, hk⟩), decide_eq_false (p := p.Kind = 1) (fun h => hk (.inl h)), decide_eq_false (p := p.Kind = 2) (fun h => hk (.inr h))]; rfl
        · rw [decide_eq_true (p := (p.Mono = true ∧ ¬ (p.Kind = 1 ∨ p.Kind = 2)) ∨ ¬ TimeP p) (.inl hf), hf.1, cond_true, bind_some, decide_eq_false (p := p.Kind = 1) (fun h => hf.2 (.inl h)), decide_eq_false (p := p.Kind = 2) (fun h => hf.2 (.inr h))]; rfl
      rw [e1, bind_some]
      by_cases h3 : (p.Mono = true ∧ ¬ (p.Kind = 1 ∨ p.Kind = 2)) ∨ ¬ TimeP p
      · rw [bifTd h3, if_pos h3]
      · rw [bifFd h3, if_neg h3, own_eq o, bind_some, lett_eq]
        by_cases h4 : OwnP p
        · rw [bifF (by rw [decide_eq_true h4]; rfl), if_neg (fun h => h h4), numFinite_eq, bind_some]
          have e2 : (bif (p.Mono && (decide (p.Kind = 2))) then some (!decide (fE p.Re.toNat ≠ 2047)) else some false : Option Bool) = some (decide ((p.Mono = true ∧ p.Kind = 2) ∧ finB p.Re = false)) := by
            unfold finB
            cases p.Mono <;> by_cases hk : p.Kind = 2 <;> by_cases hf : fE p.Re.toNat = 2047 <;> simp [hk, hf]
          rw [e2, bind_some]
          by_cases h5 : (p.Mono = true ∧ p.Kind = 2) ∧ finB p.Re = false
          · rw [bifTd h5, if_pos h5]
          · rw [bifFd h5, if_neg h5]
            unfold num_Less
            have e3 : (bif p.Mono then (bif decide (p.Int_ < 0) then some true else (some (fLess p.Re 0)).bind fun r162 => some r162 : Option Bool).bind fun x155 => some x155 else some false : Option Bool) = some (decide (p.Mono = true ∧ (p.Int_ < 0 ∨ fLess p.Re 0 = true))) := by
              cases p.Mono <;> by_cases hk : p.Int_ < 0 <;> cases fLess p.Re 0 <;> simp [hk]
            rw [e3, bind_some]
            by_cases h6 : p.Mono = true ∧ (p.Int_ < 0 ∨ fLess p.Re 0 = true)
            · rw [bifTd h6, if_pos h6]
            · rw [bifFd h6, if_neg h6, lett_eq]
              by_cases h7 : p.Kind = 4
              · rw [bifTd h7, if_pos h7, Check_eq o, bind_some]
              · rw [bifFd h7, if_neg h7]
        · rw [bifT (by rw [decide_eq_false h4]; rfl), if_pos h4]
    · rw [bifT (by rw [decide_eq_false h2]; rfl), if_pos h2]
  · rw [bifT (by rw [decide_eq_false h1]; rfl), if_pos h1]
theorem rchk_eq {p : api_Point} (o : OkH p.Hist) : ref12_Check p = some (chkE p) := by
  unfold ref12_Check chkE
  rw [rlabel_eq, bind_some]
  by_cases h1 : labelE p.Name p.Attrs = 0
  · rw [bifF (by rw [decide_eq_true h1]; rfl), if_neg (by simpa using h1)]
    by_cases h2 : KindP p
    · have hk := h2
      unfold KindP at hk
      rw [if_neg (fun h => h h2), bifF (by rw [Bool.or_eq_false_iff, decide_eq_false_iff_not, decide_eq_false_iff_not]; omega), bifF (by
        rcases hk with ⟨k1, k2⟩ | ⟨k1, k2⟩
        · simp [k1, k2]
        · have : p.Kind ≠ 3 := by omega
          rcases k2 with k2 | k2 <;> simp [this, k2])]
      by_cases h3 : p.Mono = true ∧ ¬ (p.Kind = 1 ∨ p.Kind = 2)
      · rw [if_pos (.inl h3), bifT (by
          rw [h3.1, decide_eq_false (fun h => h3.2 (.inl h)), decide_eq_false (fun h => h3.2 (.inr h))]; rfl)]
      · rw [bifF (by
          cases hm : p.Mono with
          | false => rfl
          | true =>
            by_cases hh : p.Kind = 1 ∨ p.Kind = 2
            · rcases hh with h | h <;> simp [h]
            · exact absurd ⟨hm, hh⟩ h3)]
        by_cases h4 : TimeP p
        · rw [if_neg (fun h => h.elim h3 (fun h => h h4)), bifF (by
            unfold TimeP at h4
            simp only [Bool.or_eq_false_iff, Bool.and_eq_false_iff, decide_eq_false_iff_not, Bool.not_eq_false', decide_eq_true_eq]
            omega)]
          rw [none_eq o.pl o.nl, bind_some]
          have e1 : (bif (((!decide (p.Kind = 1)) && (!decide (p.Int_ = 0))) || ((!decide (p.Kind = 5)) && (!decide (p.Im = 0)))) then
 some true
 else
 (bif (!decide (p.Kind = 4)) then
 some (!decide (p.Hist = H0))
 else
 some false : Option Bool).bind fun x74 =>
 some x74 : Option Bool) = some (decide (¬ ((p.Kind = 1 ∨ p.Int_ = 0) ∧ (p.Kind = 5 ∨ p.Im = 0) ∧ (p.Kind = 4 ∨ p.Hist = H0)))) := by
            by_cases k1 : p.Kind = 1 <;> by_cases k2 : p.Int_ = 0 <;> by_cases k3 : p.Kind = 5 <;> by_cases k4 : p.Im = 0 <;> by_cases k5 : p.Kind = 4 <;> by_cases k6 : p.Hist = H0 <;> simp [k1, k2, k3, k4, k5, k6]
          rw [e1, bind_some]
          by_cases h5 : OwnP p
          · have h5' := h5
            unfold OwnP at h5'
            rw [if_neg (fun h => h h5), bifFd (fun h => h ⟨h5'.1, h5'.2.2.1, h5'.2.2.2.1⟩), bifF (by
              simp only [Bool.or_eq_false_iff, Bool.and_eq_false_iff, decide_eq_false_iff_not, Bool.not_eq_false', decide_eq_true_eq]
              refine ⟨⟨?_, by omega⟩, by omega⟩
              rcases h5'.2.1 with h | h
              · exact .inl (by omega)
              · exact .inr h), RFin_eq, bind_some]
            have e2 : (bif (p.Mono && (decide (p.Kind = 2))) then some (!decide (fE p.Re.toNat ≠ 2047)) else some false : Option Bool) = some (decide ((p.Mono = true ∧ p.Kind = 2) ∧ finB p.Re = false)) := by
              unfold finB
              cases p.Mono <;> by_cases hk : p.Kind = 2 <;> by_cases hf : fE p.Re.toNat = 2047 <;> simp [hk, hf]
            rw [e2, bind_some]
            by_cases h6 : (p.Mono = true ∧ p.Kind = 2) ∧ finB p.Re = false
            · rw [bifTd h6, if_pos h6]
            · rw [bifFd h6, if_neg h6, Less_eq, bind_some]
              have e3 : ((bif (p.Mono && (decide (p.Kind = 2))) then some (fLess p.Re 0) else some false : Option Bool)) = some ((p.Mono && decide (p.Kind = 2)) && fLess p.Re 0) := by
                cases (p.Mono && decide (p.Kind = 2)) <;> rfl
              rw [e3, bind_some]
              have e4 : ((((p.Mono && decide (p.Kind = 2)) && fLess p.Re 0)) || ((p.Mono && (decide (p.Kind = 1))) && (decide (p.Int_ < 0)))) = decide (p.Mono = true ∧ (p.Int_ < 0 ∨ fLess p.Re 0 = true)) := by
                cases hm : p.Mono with
                | false => simp
                | true =>
                  have hkk : p.Kind = 1 ∨ p.Kind = 2 := by
                    by_cases hh : p.Kind = 1 ∨ p.Kind = 2
                    · exact hh
                    · exact absurd ⟨hm, hh⟩ h3
                  rcases hkk with hkk | hkk
                  · have hre : p.Re = 0 := by rcases h5'.2.1 with h | h; omega; exact h
                    simp [hkk, hre, less_00]
                  · have hin : p.Int_ = 0 := by rcases h5'.1 with h | h; omega; exact h
                    simp [hkk, hin]
              rw [e4]
              by_cases h7 : p.Mono = true ∧ (p.Int_ < 0 ∨ fLess p.Re 0 = true)
              · rw [bifTd h7, if_pos h7]
              · rw [bifFd h7, if_neg h7]
                by_cases h8 : p.Kind = 4
                · rw [bifTd h8, if_pos h8, RCheck_eq o, bind_some]
                · rw [bifFd h8, if_neg h8]
          · rw [if_pos h5]
            by_cases h6 : (p.Kind = 1 ∨ p.Int_ = 0) ∧ (p.Kind = 5 ∨ p.Im = 0) ∧ (p.Kind = 4 ∨ p.Hist = H0)
            · rw [bifFd (fun h => h h6), bifT]
              unfold OwnP at h5
              simp only [Bool.or_eq_true, Bool.and_eq_true, decide_eq_true_eq, Bool.not_eq_true', decide_eq_false_iff_not]
              by_cases h7 : p.Flags < 0 ∨ 31 < p.Flags
              · rcases h7 with h | h
                · exact .inl (.inr h)
                · exact .inr h
              · refine .inl (.inl ⟨?_, fun hre => h5 ⟨h6.1, .inr hre, h6.2.1, h6.2.2, by omega⟩⟩)
                by_cases h8 : p.Kind = 2 ∨ p.Kind = 3 ∨ p.Kind = 5
                · exact absurd ⟨h6.1, .inl h8, h6.2.1, h6.2.2, by omega⟩ h5
                · omega
            · rw [bifTd h6]
        · rw [if_pos (.inr h4), bifT]
          unfold TimeP at h4
          simp only [Bool.or_eq_true, Bool.and_eq_true, decide_eq_true_eq, Bool.not_eq_true', decide_eq_false_iff_not]
          omega
    · rw [if_pos h2]
      unfold KindP at h2
      by_cases h3 : p.Kind < 1 ∨ 5 < p.Kind
      · rw [bifT (by simpa using h3)]
      · rw [bifF (by simpa using h3), bifT]
        simp only [Bool.or_eq_true, Bool.and_eq_true, decide_eq_true_eq, Bool.not_eq_true', decide_eq_false_iff_not]
        omega
  · rw [bifT (by rw [decide_eq_false h1]; rfl), if_pos h1]
end Go.Lg
namespace Go.Lg
attribute [local irreducible] w64 toU64 toU8 shlU shrU shlB shrB
end Go.Lg
namespace Go.Lg
attribute [local irreducible] w64 toU64 toU8 shlU shrU shlB shrB
def S0 : api_State := ⟨false, 0, 0, 0, 0, 0, H0⟩
def Pt0 : api_Point := ⟨[], [], 0, 0, false, 0, 0, 0, 0, 0, H0, 0⟩
instance decI64 (x : Int) : Decidable (I64 x) := by unfold I64; exact inferInstance
/-! ### does a sum go round? -/
/-! ### are all finite? -/
/-! ### the fitted histogram -/
noncomputable def fitR (h : api_Hist) (most : Int) : api_Hist × Int := (hist_Fit h most).getD (H0, 0)
noncomputable def fitH (p : api_Point) (temp most : Int) : api_Hist × Int :=
  if chkE p ≠ 0 then (p.Hist, chkE p) else if p.Temp ≠ temp then (p.Hist, 14) else if p.Flags ≠ 0 then (p.Hist, 3) else if p.Kind = 4 then fitR p.Hist most else (p.Hist, 0)
/-- a point that was let in -/
structure InP (p : api_Point) (temp most : Int) (H : api_Hist) : Prop where
  chk : chkE p = 0
  temp : p.Temp = temp
  flags : p.Flags = 0
  hist : (p.Kind = 4 ∧ Good p.Hist ∧ ∃ k : Nat, (k : Int) ≤ p.Hist.Scale + 10 ∧ DnH k p.Hist H ∧ (H.Pos.Counts.length : Int) ≤ most ∧ (H.Neg.Counts.length : Int) ≤ most) ∨ (p.Kind ≠ 4 ∧ p.Hist = H0 ∧ H = H0)
theorem chk0 {p : api_Point} (h : chkE p = 0) : KindP p ∧ (p.Mono = true → p.Kind = 1 ∨ p.Kind = 2) ∧ TimeP p ∧ OwnP p ∧ (p.Mono = true → p.Kind = 2 → finB p.Re = true) ∧ (p.Mono = true → 0 ≤ p.Int_ ∧ fLess p.Re 0 = false) ∧ (p.Kind = 4 → histE p.Hist = 0) ∧ labelE p.Name p.Attrs = 0 := by
  unfold chkE at h
  by_cases h1 : labelE p.Name p.Attrs = 0
  case neg => rw [if_pos h1] at h; exact absurd h h1
  rw [if_neg (fun e => e h1)] at h
  by_cases h2 : KindP p
  case neg => rw [if_pos h2] at h; exact absurd h (by decide)
  rw [if_neg (fun e => e h2)] at h
  by_cases h3 : (p.Mono = true ∧ ¬ (p.Kind = 1 ∨ p.Kind = 2)) ∨ ¬ TimeP p
  case pos => rw [if_pos h3] at h; exact absurd h (by decide)
  rw [if_neg h3] at h
  by_cases h4 : OwnP p
  case neg => rw [if_pos h4] at h; exact absurd h (by decide)
  rw [if_neg (fun e => e h4)] at h
  by_cases h5 : (p.Mono = true ∧ p.Kind = 2) ∧ finB p.Re = false
  case pos => rw [if_pos h5] at h; exact absurd h (by decide)
  rw [if_neg h5] at h
  by_cases h6 : p.Mono = true ∧ (p.Int_ < 0 ∨ fLess p.Re 0 = true)
  case pos => rw [if_pos h6] at h; exact absurd h (by decide)
  rw [if_neg h6] at h
  refine ⟨h2, fun hm => ?_, ?_, h4, fun hm hk => ?_, fun hm => ⟨?_, ?_⟩, fun hk => ?_, h1⟩
  · exact Decidable.byContradiction fun q => h3 (.inl ⟨hm, q⟩)
  · exact Decidable.byContradiction fun q => h3 (.inr q)
  · cases hf : finB p.Re
    · exact absurd ⟨⟨hm, hk⟩, hf⟩ h5
    · rfl
  · exact Decidable.byContradiction fun q => h6 ⟨hm, .inl (by omega)⟩
  · cases hf : fLess p.Re 0
    · rfl
    · exact absurd ⟨hm, .inr hf⟩ h6
  · rw [if_pos hk] at h; exact h
theorem chk_of {p : api_Point} (h1 : labelE p.Name p.Attrs = 0) (h2 : KindP p) (h3 : p.Mono = true → p.Kind = 1 ∨ p.Kind = 2) (h4 : TimeP p) (h5 : OwnP p) (h6 : p.Mono = true → p.Kind = 2 → finB p.Re = true) (h7 : p.Mono = true → 0 ≤ p.Int_ ∧ fLess p.Re 0 = false) (h8 : p.Kind = 4 → Good p.Hist) : chkE p = 0 := by
  unfold chkE
  rw [if_neg (fun e => e h1), if_neg (fun e => e h2), if_neg (fun e => e.elim (fun e => e.2 (h3 e.1)) (fun e => e h4)), if_neg (fun e => e h5), if_neg (fun e => by have := h6 e.1.1 e.1.2; rw [e.2] at this; cases this), if_neg (fun e => by
    have := h7 e.1
    rcases e.2 with q | q
    · omega
    · rw [this.2] at q; cases q)]
  split
  · rename_i hk; exact (good_iff _).2 (h8 hk)
  · rfl
/-- the fitted point -/
noncomputable def fitP (p : api_Point) (temp most : Int) : api_Point := { p with Hist := (fitH p temp most).1 }
noncomputable def togR (a b : api_Hist) (most : Int) : api_Hist × Bool := (tocum_Together a b most).getD (H0, false)
/-! ### a state and a point together -/
def freshS (q : api_Point) : api_State := ⟨true, q.Start, q.Time, q.Int_, q.Re, q.Im, q.Hist⟩
noncomputable def sumC (s : api_State) (q : api_Point) (most : Int) : Option api_State :=
  if q.Kind = 1 then (if I64 (s.Int_ + q.Int_) then some ⟨true, s.Start, q.Time, s.Int_ + q.Int_, s.Re, s.Im, s.Hist⟩ else none)
  else if q.Kind = 4 then (if (togR s.Hist q.Hist most).2 = true then some ⟨true, s.Start, q.Time, s.Int_, s.Re, s.Im, (togR s.Hist q.Hist most).1⟩ else none)
  else if [fAdd s.Re q.Re, fAdd s.Im q.Im].all finB = false ∧ [s.Re, s.Im, q.Re, q.Im].all finB = true then none
  else some ⟨true, s.Start, q.Time, s.Int_, fAdd s.Re q.Re, fAdd s.Im q.Im, s.Hist⟩
noncomputable def stC (s : api_State) (q : api_Point) (most : Int) : api_State × Int :=
  if s.Some = false then (freshS q, 1) else if s.Time < q.Start then (freshS q, 8) else match sumC s q most with
    | none => (freshS q, 16)
    | some t => (t, 0)
def ansP (t : api_State) (q : api_Point) (fl : Int) : api_Point :=
  if q.Kind = 1 then ⟨q.Name, q.Attrs, q.Kind, 1, q.Mono, t.Start, q.Time, t.Int_, 0, 0, H0, fl⟩
  else if q.Kind = 2 then ⟨q.Name, q.Attrs, q.Kind, 1, q.Mono, t.Start, q.Time, 0, t.Re, 0, H0, fl⟩
  else if q.Kind = 5 then ⟨q.Name, q.Attrs, q.Kind, 1, q.Mono, t.Start, q.Time, 0, t.Re, t.Im, H0, fl⟩
  else ⟨q.Name, q.Attrs, q.Kind, 1, q.Mono, t.Start, q.Time, 0, 0, 0, t.Hist, fl⟩
/-- what a point makes of a state -/
noncomputable def nextC (s : api_State) (p : api_Point) (most : Int) : api_State × api_Point × Int :=
  if (fitH p 2 most).2 ≠ 0 then (S0, Pt0, (fitH p 2 most).2)
  else if s.Some = true ∧ p.Time ≤ s.Time then (S0, Pt0, 9)
  else if s.Some = true ∧ p.Start < s.Time then (S0, Pt0, 10)
  else ((stC s (fitP p 2 most) most).1, ansP (stC s (fitP p 2 most) most).1 (fitP p 2 most) (stC s (fitP p 2 most) most).2, 0)
end Go.Lg
namespace Go.Lg
attribute [local irreducible] w64 toU64 toU8 shlU shrU shlB shrB
/-! ### light points -/
def lightA (l : List api_Pair) : Bool := l.all fun a => decide (a.Key.length ≤ 100) && decide (a.Val.length ≤ 100)
theorem rlightA_eq (l : List api_Pair) : ref11_Light l = some (decide (l.length ≤ 20) && lightA l) := by
  unfold ref11_Light
  by_cases h : l.length ≤ 20
  · rw [bifFd (by omega), decide_eq_true h, Bool.true_and]
    have hs : ∀ i : Nat, i < l.length → ref11_Light_lp1 l (i : Int) = some (rndE i (if (decide ((l.getD i P0).Key.length ≤ 100) && decide ((l.getD i P0).Val.length ≤ 100)) = true then none else some false)) := by
      intro i hi
      unfold ref11_Light_lp1
      rw [bifTd (by omega), idx_nat hi, bind_some, bind_some, getD_lt hi]
      by_cases h1 : l[i].Key.length ≤ 100
      · rw [bifFd (by omega), bind_some]
        by_cases h2 : l[i].Val.length ≤ 100
        · rw [bifFd (by omega), lett_eq, w64_succ (by omega), if_pos (by simp [h1, h2])]; rfl
        · rw [bifTd (by omega), if_neg (by simp [h2])]; rfl
      · rw [bifTd (by omega), bind_some, bifT rfl, if_neg (by simp [h1])]; rfl
    rw [scan0 (n := l.length) _ hs (by unfold ref11_Light_lp1; rw [bifFd (by omega)]), flow_E]
    exact all_first (p := fun a : api_Pair => decide (a.Key.length ≤ 100) && decide (a.Val.length ≤ 100)) fun i hi => by rw [getD_lt hi]
  · rw [bifTd (by omega), decide_eq_false h, Bool.false_and]
def lightP (p : api_Point) : Bool := decide (p.Name.length ≤ 100) && ((decide (p.Attrs.length ≤ 20) && lightA p.Attrs) && (decide ((p.Hist.Pos.Counts.length : Int) ≤ 300) && decide ((p.Hist.Neg.Counts.length : Int) ≤ 300)))
theorem rlightP_eq (p : api_Point) : ref12_Light p = some (lightP p) := by
  unfold ref12_Light lightP
  rw [rlightA_eq, light_eq]
  by_cases h : p.Name.length ≤ 100
  · rw [bifTd (by omega), bind_some, bind_some, decide_eq_true h, Bool.true_and]
    cases (decide (p.Attrs.length ≤ 20) && lightA p.Attrs) <;> rfl
  · rw [bifFd (by omega), bind_some, bifF rfl, bind_some, decide_eq_false h, Bool.false_and]
structure LiP (p : api_Point) : Prop where
  la : p.Attrs.length ≤ 20
  lp : (p.Hist.Pos.Counts.length : Int) ≤ 300
  ln : (p.Hist.Neg.Counts.length : Int) ≤ 300
theorem lightP_of {p : api_Point} (h : lightP p = true) : LiP p := by
  unfold lightP at h
  simp only [Bool.and_eq_true, decide_eq_true_eq] at h
  exact ⟨h.2.1.1, h.2.2.1, h.2.2.2⟩
structure IsP (p : api_Point) : Prop where
  i : I64 p.Int_
  h : Is p.Hist
structure IsS (s : api_State) : Prop where
  i : I64 s.Int_
  h : Is s.Hist
theorem LiP.ok {p : api_Point} (l : LiP p) (i : IsP p) : OkH p.Hist := i.h.ok l.lp l.ln
/-! ### by the document -/
/-- a state that has values of a kind alone -/
def OwnS (s : api_State) (kind : Int) : Prop :=
  (kind = 1 → s.Re = 0 ∧ s.Im = 0 ∧ s.Hist = H0) ∧ (kind = 2 → s.Int_ = 0 ∧ s.Im = 0 ∧ s.Hist = H0) ∧ (kind = 4 → s.Int_ = 0 ∧ s.Re = 0 ∧ s.Im = 0) ∧ (kind = 5 → s.Int_ = 0 ∧ s.Hist = H0)
/-- what a point of its kind alone holds -/
structure KindQ (q : api_Point) : Prop where
  k : q.Kind = 1 ∨ q.Kind = 2 ∨ q.Kind = 4 ∨ q.Kind = 5
  i : q.Kind ≠ 1 → q.Int_ = 0
  r : q.Kind = 1 ∨ q.Kind = 4 → q.Re = 0
  m : q.Kind ≠ 5 → q.Im = 0
  h : q.Kind ≠ 4 → q.Hist = H0
end Go.Lg
namespace Go.Lg
attribute [local irreducible] w64 toU64 toU8 shlU shrU shlB shrB
theorem H0_ok : OkH H0 := H0_good.ok
end Go.Lg
namespace Go.Lg
open Ieee
attribute [local irreducible] w64 toU64 toU8 shlU shrU shlB shrB
/-- at least nought -/
def fGe (n : Nat) : Prop := fS n = false ∨ n % 9223372036854775808 = 0
end Go.Lg
namespace Go.Lg
attribute [local irreducible] w64 toU64 toU8 shlU shrU shlB shrB
theorem rsome_eq {l : List api_Point} (most : Int) (hm : most ≤ 1000) : ref12_Some l most = some (decide ((l.length : Int) ≤ most) && l.all lightP) := by
  unfold ref12_Some
  by_cases h : (l.length : Int) ≤ most
  · rw [bifFd (by omega), decide_eq_true h, Bool.true_and]
    have hs : ∀ i : Nat, i < l.length → ref12_Some_lp1 l (i : Int) = some (rndE i (if lightP (l.getD i Pt0) = true then none else some false)) := by
      intro i hi
      unfold ref12_Some_lp1
      rw [bifTd (by omega), idx_nat hi, bind_some, rlightP_eq, bind_some, getD_lt hi]
      cases lightP l[i]
      · rfl
      · rw [bifF (by rfl), lett_eq, w64_succ (by omega)]; rfl
    rw [scan0 (n := l.length) _ hs (by unfold ref12_Some_lp1; rw [bifFd (by omega)]), flow_E]
    exact all_first fun i hi => by rw [getD_lt hi]
  · rw [bifTd (by omega), decide_eq_false h, Bool.false_and]
/-! ### one step -/
/-- what a state may be, behind points of one kind -/
structure SInv (s : api_State) (K : Int) (M : Bool) : Prop where
  some : s.Some = true
  t0 : 0 ≤ s.Start
  t1 : s.Start < s.Time
  t2 : s.Time ≤ 4503599627370496
  own : OwnS s K
  good : Good s.Hist
  int : I64 s.Int_
  mono : M = true → finB s.Re = true ∧ fGe s.Re.toNat ∧ 0 ≤ s.Int_
def freshP (p : api_Point) (H : api_Hist) : api_State := ⟨true, p.Start, p.Time, p.Int_, p.Re, p.Im, H⟩
/-- a point that was taken -/
structure StepC (s : api_State) (p : api_Point) (most : Int) (t : api_State) (q : api_Point) (H : api_Hist) (fl : Int) : Prop where
  inp : InP p 2 most H
  q : q = ⟨p.Name, p.Attrs, p.Kind, 1, p.Mono, t.Start, p.Time, t.Int_, t.Re, t.Im, t.Hist, fl⟩
  time : t.Time = p.Time
  later : s.Some = true → s.Time < p.Time ∧ s.Time ≤ p.Start
  how : (s.Some = false ∧ fl = 1 ∧ t = freshP p H) ∨ (s.Some = true ∧ s.Time < p.Start ∧ fl = 8 ∧ t = freshP p H) ∨ (s.Some = true ∧ p.Start = s.Time ∧ fl = 16 ∧ t = freshP p H) ∨
    (s.Some = true ∧ p.Start = s.Time ∧ fl = 0 ∧ sumC s { p with Hist := H } most = some t ∧ t.Start = s.Start)
/-! ### all steps -/
structure Tri where
  p : api_Point
  q : api_Point
  t : api_State
def D3 : Tri := ⟨Pt0, Pt0, S0⟩
/-- the state ahead of the i-th point -/
def stB (l : List Tri) (i : Nat) : api_State := match i with
  | 0 => S0
  | i + 1 => (l.getD i D3).t
structure RunC (most : Int) (K : Int) (M : Bool) (l : List Tri) : Prop where
  step : ∀ i, i < l.length → nextC (stB l i) (l.getD i D3).p most = ((l.getD i D3).t, (l.getD i D3).q, 0)
  pts : ∀ x ∈ l, LiP x.p ∧ IsP x.p ∧ x.p.Kind = K ∧ x.p.Mono = M
end Go.Lg
namespace Go.Lg
structure ref36_Got where
  P : api_Point
  E : Int
  deriving DecidableEq
structure ref36_Rolled where
  L : List api_Point
  At : Int
  E : Int
  deriving DecidableEq
noncomputable def cmp_isNaN_string (a0 : List UInt8) : Option Bool :=
 lett ((!decide (a0 = a0))) fun t11 =>
 some t11
noncomputable def cmp_Compare_string (a0 : List UInt8) (a1 : List UInt8) : Option Int :=
 (cmp_isNaN_string a0).bind fun r11 =>
 (cmp_isNaN_string a1).bind fun r20 =>
 bif r11 then
 bif r20 then
 some 0
 else
 some (-1)
 else
 bif r20 then
 some 1
 else
 bif sLess a0 a1 then
 some (-1)
 else
 bif sLess a1 a0 then
 some 1
 else
 some 0
noncomputable def label_Sorted_lp3 (a52 : Int) : (List api_Pair × Int) → Option (Rnd (List api_Pair × Int) (List api_Pair) (List api_Pair)) := fun (data114, j117) =>
 (bif decide (a52 < j117) then
 (idx data114 j117).bind fun e167 =>
 (idx data114 (w64 (j117 - 1))).bind fun e194 =>
 ((cmp_Compare_string e167.Key e194.Key).bind fun r228 =>
 some r228 : Option Int).bind fun x211 =>
 some (decide (x211 < 0))
 else
 some false).bind fun x150 =>
 bif x150 then
 (idx data114 (w64 (j117 - 1))).bind fun e273 =>
 (idx data114 j117).bind fun e295 =>
 (some ()).bind fun (_ : Unit) =>
 (idx data114 j117).bind fun e311 =>
 (setI data114 j117 e273).bind fun xs324 =>
 (idx xs324 (w64 (j117 - 1))).bind fun e328 =>
 (setI xs324 (w64 (j117 - 1)) e295).bind fun xs341 =>
 lett (w64 (j117 - 1)) fun j345 =>
 some (.next (xs341, j345))
 else
 some (.brk data114)
noncomputable def label_Sorted_lp2 (a52 : Int) (b53 : Int) : (List api_Pair × Int) → Option (Rnd (List api_Pair × Int) (List api_Pair) (List api_Pair)) := fun (data83, i86) =>
 bif decide (i86 < b53) then
 (flow (loop (label_Sorted_lp3 a52) (data83, i86)) fun data121 =>
 some data121 : Option (List api_Pair)).bind fun data106 =>
 lett (w64 (i86 + 1)) fun i354 =>
 some (.next (data106, i354))
 else
 some (.brk data83)
noncomputable def label_Sorted_lp1 (r12 : List api_Pair) : (List api_Pair × Int × Int) → Option (Rnd (List api_Pair × Int × Int) (List api_Pair × Int) (List api_Pair × Int)) := fun (data49, a52, b53) =>
 bif decide (b53 ≤ (r12.length : Int)) then
 (lett (w64 (a52 + 1)) fun i82 =>
 flow (loop (label_Sorted_lp2 a52 b53) (data49, i82)) fun x90 =>
 some x90 : Option (List api_Pair)).bind fun data74 =>
 lett (w64 (b53 + 20)) fun b364 =>
 some (.next (data74, b53, b364))
 else
 some (.brk (data49, a52))
noncomputable def label_Sorted_lp5 (a43 : Int) : (List api_Pair × Int) → Option (Rnd (List api_Pair × Int) (List api_Pair) (List api_Pair)) := fun (data414, j417) =>
 (bif decide (a43 < j417) then
 (idx data414 j417).bind fun e467 =>
 (idx data414 (w64 (j417 - 1))).bind fun e494 =>
 ((cmp_Compare_string e467.Key e494.Key).bind fun r528 =>
 some r528 : Option Int).bind fun x511 =>
 some (decide (x511 < 0))
 else
 some false).bind fun x450 =>
 bif x450 then
 (idx data414 (w64 (j417 - 1))).bind fun e573 =>
 (idx data414 j417).bind fun e595 =>
 (some ()).bind fun (_ : Unit) =>
 (idx data414 j417).bind fun e611 =>
 (setI data414 j417 e573).bind fun xs624 =>
 (idx xs624 (w64 (j417 - 1))).bind fun e628 =>
 (setI xs624 (w64 (j417 - 1)) e595).bind fun xs641 =>
 lett (w64 (j417 - 1)) fun j645 =>
 some (.next (xs641, j645))
 else
 some (.brk data414)
noncomputable def label_Sorted_lp4 (r12 : List api_Pair) (a43 : Int) : (List api_Pair × Int) → Option (Rnd (List api_Pair × Int) (List api_Pair) (List api_Pair)) := fun (data383, i386) =>
 bif decide (i386 < (r12.length : Int)) then
 (flow (loop (label_Sorted_lp5 a43) (data383, i386)) fun data421 =>
 some data421 : Option (List api_Pair)).bind fun data406 =>
 lett (w64 (i386 + 1)) fun i654 =>
 some (.next (data406, i654))
 else
 some (.brk data383)
noncomputable def slices_symMergeCmpFunc_api_Pair_lp1 (a0 : List api_Pair) (a1 : Int) : (Int × Int) → Option (Rnd (Int × Int) Int Int) := fun (i19, j20) =>
 bif decide (i19 < j20) then
 (lett (w64 ((shrU (toU64 (w64 (i19 + j20))) ((1 : UInt64).toNat)).toNat : Int)) fun hv42 =>
 (idx a0 hv42).bind fun e45 =>
 (idx a0 a1).bind fun e57 =>
 ((cmp_Compare_string e45.Key e57.Key).bind fun r84 =>
 some r84 : Option Int).bind fun x67 =>
 bif decide (x67 < 0) then
 lett (w64 (hv42 + 1)) fun i94 =>
 some (i94, j20)
 else
 some (i19, hv42) : Option (Int × Int)).bind fun (i35, j36) =>
 some (.next (i35, j36))
 else
 some (.brk i19)
noncomputable def slices_symMergeCmpFunc_api_Pair_lp2 (i13 : Int) : (List api_Pair × Int) → Option (Rnd (List api_Pair × Int) (List api_Pair) (List api_Pair)) := fun (data95, k98) =>
 bif decide (k98 < w64 (i13 - 1)) then
 (idx data95 (w64 (k98 + 1))).bind fun e142 =>
 (idx data95 k98).bind fun e162 =>
 (some ()).bind fun (_ : Unit) =>
 (idx data95 k98).bind fun e178 =>
 (setI data95 k98 e142).bind fun xs191 =>
 (idx xs191 (w64 (k98 + 1))).bind fun e195 =>
 (setI xs191 (w64 (k98 + 1)) e162).bind fun xs208 =>
 lett (w64 (k98 + 1)) fun k212 =>
 some (.next (xs208, k212))
 else
 some (.brk data95)
noncomputable def slices_symMergeCmpFunc_api_Pair_lp3 (a0 : List api_Pair) (a2 : Int) : (Int × Int) → Option (Rnd (Int × Int) Int Int) := fun (i221, j222) =>
 bif decide (i221 < j222) then
 (lett (w64 ((shrU (toU64 (w64 (i221 + j222))) ((1 : UInt64).toNat)).toNat : Int)) fun hv244 =>
 (idx a0 a2).bind fun e247 =>
 (idx a0 hv244).bind fun e259 =>
 ((cmp_Compare_string e247.Key e259.Key).bind fun r286 =>
 some r286 : Option Int).bind fun x269 =>
 bif (!(decide (x269 < 0))) then
 lett (w64 (hv244 + 1)) fun i296 =>
 some (i296, j222)
 else
 some (i221, hv244) : Option (Int × Int)).bind fun (i237, j238) =>
 some (.next (i237, j238))
 else
 some (.brk i221)
noncomputable def slices_symMergeCmpFunc_api_Pair_lp4 (i215 : Int) : (List api_Pair × Int) → Option (Rnd (List api_Pair × Int) (List api_Pair) (List api_Pair)) := fun (data297, k300) =>
 bif decide (i215 < k300) then
 (idx data297 (w64 (k300 - 1))).bind fun e344 =>
 (idx data297 k300).bind fun e364 =>
 (some ()).bind fun (_ : Unit) =>
 (idx data297 k300).bind fun e380 =>
 (setI data297 k300 e344).bind fun xs393 =>
 (idx xs393 (w64 (k300 - 1))).bind fun e397 =>
 (setI xs393 (w64 (k300 - 1)) e364).bind fun xs410 =>
 lett (w64 (k300 - 1)) fun k414 =>
 some (.next (xs410, k414))
 else
 some (.brk data297)
noncomputable def slices_symMergeCmpFunc_api_Pair_lp5 (a0 : List api_Pair) (p424 : Int) : (Int × Int) → Option (Rnd (Int × Int) Int Int) := fun (start431, r432) =>
 bif decide (start431 < r432) then
 (lett (w64 ((shrU (toU64 (w64 (start431 + r432))) ((1 : UInt64).toNat)).toNat : Int)) fun c454 =>
 (idx a0 (w64 (p424 - c454))).bind fun e457 =>
 (idx a0 c454).bind fun e469 =>
 ((cmp_Compare_string e457.Key e469.Key).bind fun r496 =>
 some r496 : Option Int).bind fun x479 =>
 bif (!(decide (x479 < 0))) then
 lett (w64 (c454 + 1)) fun start506 =>
 some (start506, r432)
 else
 some (start431, c454) : Option (Int × Int)).bind fun (start447, r448) =>
 some (.next (start447, r448))
 else
 some (.brk start431)
noncomputable def slices_symMergeCmpFunc_api_Pair_lp7 (a2 : Int) (i540 : Int) (j541 : Int) : (List api_Pair × Int) → Option (Rnd (List api_Pair × Int) (List api_Pair) (List api_Pair)) := fun (data579, i582) =>
 bif decide (i582 < j541) then
 (idx data579 (w64 (a2 + i582))).bind fun e637 =>
 (idx data579 (w64 ((w64 (a2 - i540)) + i582))).bind fun e663 =>
 (some ()).bind fun (_ : Unit) =>
 (idx data579 (w64 ((w64 (a2 - i540)) + i582))).bind fun e679 =>
 (setI data579 (w64 ((w64 (a2 - i540)) + i582)) e637).bind fun xs692 =>
 (idx xs692 (w64 (a2 + i582))).bind fun e696 =>
 (setI xs692 (w64 (a2 + i582)) e663).bind fun xs709 =>
 lett (w64 (i582 + 1)) fun i713 =>
 some (.next (xs709, i713))
 else
 some (.brk data579)
noncomputable def slices_symMergeCmpFunc_api_Pair_lp8 (a2 : Int) (i540 : Int) (j541 : Int) : (List api_Pair × Int) → Option (Rnd (List api_Pair × Int) (List api_Pair) (List api_Pair)) := fun (data723, i726) =>
 bif decide (i726 < i540) then
 (idx data723 (w64 ((w64 ((w64 (a2 + j541)) - i540)) + i726))).bind fun e781 =>
 (idx data723 (w64 ((w64 (a2 - i540)) + i726))).bind fun e807 =>
 (some ()).bind fun (_ : Unit) =>
 (idx data723 (w64 ((w64 (a2 - i540)) + i726))).bind fun e823 =>
 (setI data723 (w64 ((w64 (a2 - i540)) + i726)) e781).bind fun xs836 =>
 (idx xs836 (w64 ((w64 ((w64 (a2 + j541)) - i540)) + i726))).bind fun e840 =>
 (setI xs836 (w64 ((w64 ((w64 (a2 + j541)) - i540)) + i726)) e807).bind fun xs853 =>
 lett (w64 (i726 + 1)) fun i857 =>
 some (.next (xs853, i857))
 else
 some (.brk data723)
noncomputable def slices_symMergeCmpFunc_api_Pair_lp6 (a2 : Int) : (List api_Pair × Int × Int) → Option (Rnd (List api_Pair × Int × Int) (List api_Pair × Int) (List api_Pair × Int)) := fun (data537, i540, j541) =>
 bif (!decide (i540 = j541)) then
 (bif decide (j541 < i540) then
 (flow (loop (slices_symMergeCmpFunc_api_Pair_lp7 a2 i540 j541) (data537, 0)) fun x586 =>
 some x586 : Option (List api_Pair)).bind fun data571 =>
 lett (w64 (i540 - j541)) fun i714 =>
 some (data571, i714, j541)
 else
 (flow (loop (slices_symMergeCmpFunc_api_Pair_lp8 a2 i540 j541) (data537, 0)) fun x730 =>
 some x730 : Option (List api_Pair)).bind fun data715 =>
 lett (w64 (j541 - i540)) fun j858 =>
 some (data715, i540, j858) : Option (List api_Pair × Int × Int)).bind fun (data560, i563, j564) =>
 some (.next (data560, i563, j564))
 else
 some (.brk (data537, i540))
noncomputable def slices_symMergeCmpFunc_api_Pair_lp9 (a2 : Int) (i531 : Int) : (List api_Pair × Int) → Option (Rnd (List api_Pair × Int) (List api_Pair) (List api_Pair)) := fun (data867, i870) =>
 bif decide (i870 < i531) then
 (idx data867 (w64 (a2 + i870))).bind fun e925 =>
 (idx data867 (w64 ((w64 (a2 - i531)) + i870))).bind fun e951 =>
 (some ()).bind fun (_ : Unit) =>
 (idx data867 (w64 ((w64 (a2 - i531)) + i870))).bind fun e967 =>
 (setI data867 (w64 ((w64 (a2 - i531)) + i870)) e925).bind fun xs980 =>
 (idx xs980 (w64 (a2 + i870))).bind fun e984 =>
 (setI xs980 (w64 (a2 + i870)) e951).bind fun xs997 =>
 lett (w64 (i870 + 1)) fun i1001 =>
 some (.next (xs997, i1001))
 else
 some (.brk data867)
noncomputable def slices_symMergeCmpFunc_api_PairB (rec_ : (List api_Pair) → Int → Int → Int → Option (List api_Pair)) (a0 : List api_Pair) (a1 : Int) (a2 : Int) (a3 : Int) : Option (List api_Pair) :=
 bif decide (w64 (a2 - a1) = 1) then
 (flow (loop (slices_symMergeCmpFunc_api_Pair_lp1 a0 a1) (a2, a3)) fun i24 =>
 some i24 : Option Int).bind fun i13 =>
 flow (loop (slices_symMergeCmpFunc_api_Pair_lp2 i13) (a0, a1)) fun x102 =>
 some x102
 else
 bif decide (w64 (a3 - a2) = 1) then
 (flow (loop (slices_symMergeCmpFunc_api_Pair_lp3 a0 a2) (a1, a2)) fun i226 =>
 some i226 : Option Int).bind fun i215 =>
 flow (loop (slices_symMergeCmpFunc_api_Pair_lp4 i215) (a0, a2)) fun x304 =>
 some x304
 else
 lett (w64 ((shrU (toU64 (w64 (a1 + a3))) ((1 : UInt64).toNat)).toNat : Int)) fun mid416 =>
 lett (w64 (mid416 + a2)) fun nv417 =>
 (bif decide (mid416 < a2) then
 lett (w64 (nv417 - a3)) fun start423 =>
 some (start423, mid416)
 else
 some (a1, a2) : Option (Int × Int)).bind fun (start418, r419) =>
 lett (w64 (nv417 - 1)) fun p424 =>
 (flow (loop (slices_symMergeCmpFunc_api_Pair_lp5 a0 p424) (start418, r419)) fun start436 =>
 some start436 : Option Int).bind fun start425 =>
 lett (w64 (nv417 - start425)) fun end507 =>
 (bif ((decide (start425 < a2)) && (decide (a2 < end507))) then
 (lett (w64 (a2 - start425)) fun i526 =>
 lett (w64 (end507 - a2)) fun j527 =>
 (flow (loop (slices_symMergeCmpFunc_api_Pair_lp6 a2) (a0, i526, j527)) fun (data545, i548) =>
 some (data545, i548) : Option (List api_Pair × Int)).bind fun (data528, i531) =>
 (flow (loop (slices_symMergeCmpFunc_api_Pair_lp9 a2 i531) (data528, 0)) fun x874 =>
 some x874 : Option (List api_Pair)).bind fun x859 =>
 some x859 : Option (List api_Pair)).bind fun data518 =>
 some data518
 else
 some a0 : Option (List api_Pair)).bind fun data508 =>
 (bif ((decide (a1 < start425)) && (decide (start425 < mid416))) then
 (rec_ data508 a1 start425 mid416).bind fun r1013 =>
 some r1013
 else
 some data508 : Option (List api_Pair)).bind fun data1003 =>
 bif ((decide (mid416 < end507)) && (decide (end507 < a3))) then
 (rec_ data1003 mid416 end507 a3).bind fun r1026 =>
 some r1026
 else
 some data1003
noncomputable def slices_symMergeCmpFunc_api_PairN : Nat → (List api_Pair) → Int → Int → Int → Option (List api_Pair)
  | 0 => fun _ _ _ _ => none
  | k + 1 => slices_symMergeCmpFunc_api_PairB (slices_symMergeCmpFunc_api_PairN k)
noncomputable def slices_symMergeCmpFunc_api_Pair (a0 : List api_Pair) (a1 : Int) (a2 : Int) (a3 : Int) : Option (List api_Pair) :=
  fuel fun k => slices_symMergeCmpFunc_api_PairN k a0 a1 a2 a3
noncomputable def label_Sorted_lp7 (r12 : List api_Pair) (blockSize667 : Int) : (List api_Pair × Int × Int) → Option (Rnd (List api_Pair × Int × Int) (List api_Pair × Int) (List api_Pair × Int)) := fun (data706, a709, b710) =>
 bif decide (b710 ≤ (r12.length : Int)) then
 (slices_symMergeCmpFunc_api_Pair data706 a709 (w64 (a709 + blockSize667)) b710).bind fun r731 =>
 lett (w64 (b710 + (w64 (2 * blockSize667)))) fun b742 =>
 some (.next (r731, b710, b742))
 else
 some (.brk (data706, a709))
noncomputable def label_Sorted_lp6 (r12 : List api_Pair) : (List api_Pair × Int) → Option (Rnd (List api_Pair × Int) (List api_Pair) (List api_Pair)) := fun (data664, blockSize667) =>
 bif decide (blockSize667 < (r12.length : Int)) then
 (lett (w64 (2 * blockSize667)) fun b696 =>
 (flow (loop (label_Sorted_lp7 r12 blockSize667) (data664, 0, b696)) fun (data714, a717) =>
 some (data714, a717) : Option (List api_Pair × Int)).bind fun (data697, a700) =>
 (lett (w64 (a700 + blockSize667)) fun m757 =>
 bif decide (m757 < (r12.length : Int)) then
 (slices_symMergeCmpFunc_api_Pair data697 a700 m757 (r12.length : Int)).bind fun r759 =>
 some r759
 else
 some data697 : Option (List api_Pair)).bind fun data749 =>
 lett (w64 (blockSize667 * 2)) fun blockSize776 =>
 some (data749, blockSize776) : Option (List api_Pair × Int)).bind fun (data687, blockSize690) =>
 some (.next (data687, blockSize690))
 else
 some (.brk data664)
noncomputable def label_Sorted (a0 : List api_Pair) : Option (List api_Pair) :=
 (slices_Clone_api_Pair_api_Pair a0).bind fun r12 =>
 (((flow (loop (label_Sorted_lp1 r12) (r12, 0, 20)) fun (data57, a60) =>
 some (data57, a60) : Option (List api_Pair × Int)).bind fun (data40, a43) =>
 (lett (w64 (a43 + 1)) fun i382 =>
 flow (loop (label_Sorted_lp4 r12 a43) (data40, i382)) fun x390 =>
 some x390 : Option (List api_Pair)).bind fun data374 =>
 flow (loop (label_Sorted_lp6 r12) (data374, 20)) fun x671 =>
 some x671 : Option (List api_Pair)).bind fun x32 =>
 some x32 : Option (List api_Pair)).bind fun out24 =>
 some out24
noncomputable def ref12_SameAll_lp1 (a0 : List api_Point) (a1 : List api_Point) : Int → Option (Rnd Int Unit Bool) := fun i15 =>
 bif decide (i15 < (a0.length : Int)) then
 (idx a0 i15).bind fun e32 =>
 (idx a1 i15).bind fun e51 =>
 (ref12_Same e32 e51).bind fun r71 =>
 bif (!r71) then
 outr (some false)
 else
 lett (w64 (i15 + 1)) fun i82 =>
 some (.next i82)
 else
 some (.brk ())
noncomputable def ref12_SameAll (a0 : List api_Point) (a1 : List api_Point) : Option Bool :=
 bif (!decide ((a0.length : Int) = (a1.length : Int))) then
 some false
 else
 flow (loop (ref12_SameAll_lp1 a0 a1) 0) fun (_ : Unit) =>
 some true
end Go.Lg
namespace Go.Lg
attribute [local irreducible] w64 toU64 toU8 shlU shrU shlB shrB
/-- where one goes among others, looked for from behind -/
def posK (out : List api_Pair) (x : api_Pair) : Nat → Nat
  | 0 => 0
  | k + 1 => if sLess x.Key (out.getD k P0).Key = true then posK out x k else k + 1
theorem posK_le (out : List api_Pair) (x : api_Pair) : ∀ k, posK out x k ≤ k
  | 0 => Nat.le_refl _
  | k + 1 => by
    unfold posK
    split
    · exact Nat.le_succ_of_le (posK_le out x k)
    · exact Nat.le_refl _
def insK (out : List api_Pair) (x : api_Pair) : List api_Pair := out.take (posK out x out.length) ++ x :: out.drop (posK out x out.length)
theorem insK_length (out : List api_Pair) (x : api_Pair) : (insK out x).length = out.length + 1 := by
  have := posK_le out x out.length
  simp only [insK, List.length_append, List.length_take, List.length_cons, List.length_drop]; omega
theorem insK_mem {out : List api_Pair} {x y : api_Pair} (h : y ∈ insK out x) : y = x ∨ y ∈ out := by
  unfold insK at h
  rcases List.mem_append.1 h with h | h
  · exact .inr (List.mem_of_mem_take h)
  · rcases List.mem_cons.1 h with h | h
    · exact .inl h
    · exact .inr (List.mem_of_mem_drop h)
def srt (l : List api_Pair) : List api_Pair := l.foldl insK []
theorem foldK_mem {y : api_Pair} : ∀ (l out : List api_Pair), y ∈ l.foldl insK out → y ∈ l ∨ y ∈ out
  | [], _, h => .inr h
  | x :: l, out, h => by
    rcases foldK_mem l (insK out x) h with h | h
    · exact .inl (List.mem_cons_of_mem _ h)
    · rcases insK_mem h with h | h
      · exact .inl (h ▸ List.mem_cons_self ..)
      · exact .inr h
theorem foldK_length : ∀ (l out : List api_Pair), (l.foldl insK out).length = l.length + out.length
  | [], out => by simp
  | x :: l, out => by
    rw [List.foldl_cons, foldK_length l, insK_length, List.length_cons]; omega
theorem srt_mem {l : List api_Pair} {y : api_Pair} (h : y ∈ srt l) : y ∈ l := by
  rcases foldK_mem l [] h with h | h
  · exact h
  · cases h
theorem srt_length (l : List api_Pair) : (srt l).length = l.length := by
  have := foldK_length l []
  simpa [srt] using this
theorem rsorted_lp2 (a0 out : List api_Pair) (i : Nat) (hi : i < a0.length) : ∀ k : Nat, k ≤ out.length → k ≤ 1000 → loop (ref11_Sorted_lp2 a0 out (i : Int)) (k : Int) = some (.go ((posK out a0[i] k : Nat) : Int))
  | 0, h, _ => loop_brk (by unfold ref11_Sorted_lp2; rw [bifFd (by omega), bind_some, cond_false]; rfl)
  | k + 1, h, hk => by
    have h1 : w64 (((k + 1 : Nat) : Int) - 1) = (k : Int) := by rw [w64_id] <;> omega
    have hk2 : k < out.length := by omega
    have hg : out.getD k P0 = out[k] := by simp [List.getD, hk2]
    cases hc : sLess a0[i].Key out[k].Key with
    | true =>
      have hp : posK out a0[i] (k + 1) = posK out a0[i] k := by
        rw [posK, hg, if_pos hc]
      rw [hp, ← rsorted_lp2 a0 out i hi k (by omega) (by omega)]
      refine loop_next ?_
      unfold ref11_Sorted_lp2
      rw [bifTd (by omega), h1, idx_nat hk2, bind_some, idx_nat hi, bind_some, bind_some, hc, cond_true, lett_eq]
    | false =>
      have hp : posK out a0[i] (k + 1) = k + 1 := by
        rw [posK, hg, if_neg (by rw [hc]; decide)]
      rw [hp]
      refine loop_brk ?_
      unfold ref11_Sorted_lp2
      rw [bifTd (by omega), h1, idx_nat hk2, bind_some, idx_nat hi, bind_some, bind_some, hc, cond_false]
theorem rsorted_lp1 (a0 : List api_Pair) (hl : a0.length ≤ 100) : ∀ (m i : Nat) (out : List api_Pair), i + m = a0.length → out.length = i → loop (ref11_Sorted_lp1 a0) (out, (i : Int)) = some (.go ((a0.drop i).foldl insK out))
  | 0, i, out, h, ho => by
    rw [List.drop_eq_nil_of_le (by omega)]
    exact loop_brk (by unfold ref11_Sorted_lp1; dsimp only; rw [bifFd (by omega)]; rfl)
  | m + 1, i, out, h, ho => by
    have hi : i < a0.length := by omega
    have j1 := posK_le out a0[i] out.length
    have j2 := rsorted_lp2 a0 out i hi out.length (Nat.le_refl _) (by omega)
    rw [List.drop_eq_getElem_cons hi, List.foldl_cons, ← rsorted_lp1 a0 hl m (i + 1) (insK out a0[i]) (by omega) (by rw [insK_length]; omega)]
    refine loop_next ?_
    unfold ref11_Sorted_lp1
    dsimp only
    have hsl : slc out 0 ((posK out a0[i] out.length : Nat) : Int) = some (out.take (posK out a0[i] out.length)) := by rw [show (0 : Int) = ((0 : Nat) : Int) from rfl, slc_nat (by omega) j1, List.drop_zero]
    have hs2 : slc out ((posK out a0[i] out.length : Nat) : Int) (out.length : Int) = some (out.drop (posK out a0[i] out.length)) := by rw [slc_nat j1 (Nat.le_refl _), List.take_length]
    rw [bifTd (by omega), lett_eq, j2, flow_go, bind_some, hsl, bind_some, app_ok (by simp only [List.length_nil, List.length_take]; omega), bind_some, List.nil_append, idx_nat hi, bind_some, app_ok (by simp only [List.length_take, List.length_cons, List.length_nil]; omega), bind_some, hs2, bind_some,
      app_ok (by simp only [List.length_append, List.length_take, List.length_drop, List.length_cons, List.length_nil]; omega), bind_some, lett_eq, w64_succ (by omega), insK, List.append_assoc, List.singleton_append]
theorem rsorted_eq (a0 : List api_Pair) (hl : a0.length ≤ 100) : ref11_Sorted a0 = some (srt a0) := by
  have h : loop (ref11_Sorted_lp1 a0) ([], 0) = _ := rsorted_lp1 a0 hl a0.length 0 [] (by omega) rfl
  unfold ref11_Sorted
  rw [h, flow_go]; rfl
theorem cmp_eq (a b : List UInt8) : cmp_Compare_string a b = some (if sLess a b = true then -1 else if sLess b a = true then 1 else 0) := by
  unfold cmp_Compare_string cmp_isNaN_string
  simp only [decide_true, Bool.not_true, lett_eq, bind_some, cond_false]
  cases sLess a b <;> cases sLess b a <;> rfl
section
variable {α : Type} {A R : List α} {x y z : α} {k : Nat}
theorem idx_app0 (h : A.length = k) : idx (A ++ y :: R) (k : Int) = some y := by
  subst h
  rw [idx_nat (by simp)]; simp
theorem idx_app1 (h : A.length = k) : idx (A ++ y :: x :: R) ((k + 1 : Nat) : Int) = some x := by
  subst h
  rw [idx_nat (by simp)]; simp
theorem setI_app0 (h : A.length = k) : setI (A ++ y :: R) (k : Int) z = some (A ++ z :: R) := by
  subst h
  rw [setI_nat (by simp)]; simp
theorem setI_app1 (h : A.length = k) : setI (A ++ y :: x :: R) ((k + 1 : Nat) : Int) z = some (A ++ y :: z :: R) := by
  subst h
  rw [setI_nat (by simp)]; simp
end
theorem isort_lp5 (out rest : List api_Pair) (x : api_Pair) (hl : out.length ≤ 1000) : ∀ k : Nat, k ≤ out.length →
    loop (label_Sorted_lp5 0) (out.take k ++ x :: (out.drop k ++ rest), (k : Int)) = some (.go (out.take (posK out x k) ++ x :: (out.drop (posK out x k) ++ rest)))
  | 0, h => loop_brk (by unfold label_Sorted_lp5; dsimp only; rw [bifFd (by omega), bind_some, cond_false]; rfl)
  | k + 1, h => by
    have hk2 : k < out.length := by omega
    have h1 : w64 (((k + 1 : Nat) : Int) - 1) = (k : Int) := by rw [w64_id] <;> omega
    have hA : (out.take k).length = k := by rw [List.length_take]; omega
    have hg : out.getD k P0 = out[k] := by simp [List.getD, hk2]
    have e1 : out.take (k + 1) ++ x :: (out.drop (k + 1) ++ rest) = out.take k ++ out[k] :: x :: (out.drop (k + 1) ++ rest) := by
      rw [← List.take_append_getElem hk2, List.append_assoc]; rfl
    cases hc : sLess x.Key out[k].Key with
    | true =>
      have hp : posK out x (k + 1) = posK out x k := by
        rw [posK, hg, if_pos hc]
      rw [hp, ← isort_lp5 out rest x hl k (by omega), e1, List.drop_eq_getElem_cons hk2]
      refine loop_next ?_
      unfold label_Sorted_lp5
      dsimp only
      rw [bifTd (by omega), h1, idx_app1 hA, bind_some, idx_app0 hA, bind_some, cmp_eq, bind_some, bind_some, if_pos hc, bind_some, bifTd (by decide), bind_some, bind_some, bind_some, bind_some, setI_app1 hA, bind_some, idx_app0 hA, bind_some, setI_app0 hA, bind_some, lett_eq]
      rfl
    | false =>
      have hp : posK out x (k + 1) = k + 1 := by
        rw [posK, hg, if_neg (by rw [hc]; decide)]
      rw [hp, e1]
      refine loop_brk ?_
      unfold label_Sorted_lp5
      dsimp only
      have hn : ¬ ((if sLess x.Key out[k].Key = true then (-1 : Int) else if sLess out[k].Key x.Key = true then 1 else 0) < 0) := by
        rw [hc, if_neg (by decide)]; split <;> decide
      rw [bifTd (by omega), h1, idx_app1 hA, bind_some, idx_app0 hA, bind_some, cmp_eq, bind_some, bind_some, bind_some, bifFd hn]
theorem isort_lp4 (l : List api_Pair) (hl : l.length ≤ 100) : ∀ (m i : Nat) (out : List api_Pair), i + m = l.length → out.length = i → loop (label_Sorted_lp4 l 0) (out ++ l.drop i, (i : Int)) = some (.go ((l.drop i).foldl insK out))
  | 0, i, out, h, ho => by
    rw [List.drop_eq_nil_of_le (by omega), List.append_nil]
    exact loop_brk (by unfold label_Sorted_lp4; dsimp only; rw [bifFd (by omega)]; rfl)
  | m + 1, i, out, h, ho => by
    have hi : i < l.length := by omega
    have h5 := isort_lp5 out (l.drop (i + 1)) l[i] (by omega) i (by omega)
    rw [List.take_of_length_le (by omega), List.drop_eq_nil_of_le (Nat.le_of_eq ho), List.nil_append] at h5
    have hq : posK out l[i] out.length = posK out l[i] i := by rw [ho]
    rw [List.drop_eq_getElem_cons hi, List.foldl_cons, ← isort_lp4 l hl m (i + 1) (insK out l[i]) (by omega) (by rw [insK_length]; omega)]
    refine loop_next ?_
    unfold label_Sorted_lp4
    dsimp only
    rw [bifTd (by omega), h5, flow_go, bind_some, lett_eq, w64_succ (by omega), insK, hq, List.append_assoc, List.cons_append]
theorem sorted_eq (l : List api_Pair) (hl : l.length < 20) : label_Sorted l = some (srt l) := by
  have h4 : loop (label_Sorted_lp4 l 0) (l, 1) = some (.go (srt l)) := by
    cases l with
    | nil => exact loop_brk (by unfold label_Sorted_lp4; dsimp only; rw [bifFd (by simp)]; rfl)
    | cons x l => exact isort_lp4 (x :: l) (by omega) l.length 1 [x] (by rw [List.length_cons]; omega) rfl
  unfold label_Sorted slices_Clone_api_Pair_api_Pair
  rw [app_ok (by simp only [List.length_nil]; omega), bind_some, List.nil_append]
  have h1 : loop (label_Sorted_lp1 l) (l, 0, 20) = some (.go (l, 0)) := loop_brk (by unfold label_Sorted_lp1; dsimp only; rw [bifFd (by omega)])
  have h6 : loop (label_Sorted_lp6 l) (srt l, 20) = some (.go (srt l)) := loop_brk (by unfold label_Sorted_lp6; dsimp only; rw [bifFd (by omega)])
  rw [h1, flow_go, bind_some]
  dsimp only
  rw [lett_eq, show w64 (0 + 1) = 1 by rw [w64_id] <;> omega, h4, flow_go, bind_some, h6, flow_go, bind_some, bind_some]
end Go.Lg
namespace Go.Lg
attribute [local irreducible] w64 toU64 toU8 shlU shrU shlB shrB
theorem firstE_pair {l : List api_Pair} {n i : Nat} (h : (firstE (pairE l) n i).getD 0 = 0) : firstE (pairE l) n i = none := by
  by_cases hn : firstE (pairE l) n i = none
  · exact hn
  · obtain ⟨j, _, _, h3, h4⟩ := first_ex n i hn
    rw [h3] at h
    unfold pairE at h h4
    split at h
    · split at h
      · cases h
      · rename_i h1 h2
        rw [if_pos h1, if_neg h2] at h4
        exact absurd rfl h4
    · cases h
theorem nameOk_len {l : List UInt8} (h : nameOk l = true) : l.length ≤ 32 := by
  unfold nameOk at h
  simp only [Bool.and_eq_true, decide_eq_true_eq] at h
  exact h.1.1.2
theorem valueOk_len {l : List UInt8} (h : valueOk l = true) : l.length ≤ 32 := by
  unfold valueOk at h
  simp only [Bool.and_eq_true, decide_eq_true_eq] at h
  exact h.1.2
theorem label_lens {n : List UInt8} {l : List api_Pair} (h : labelE n l = 0) : n.length ≤ 32 ∧ l.length ≤ 4 ∧ ∀ p ∈ l, p.Key.length ≤ 32 ∧ p.Val.length ≤ 32 := by
  unfold labelE at h
  split at h
  · cases h
  · rename_i h1
    split at h
    · cases h
    · rename_i h2
      refine ⟨nameOk_len (by simpa using h1), by omega, fun p hp => ?_⟩
      have h3 := (firstE_none _ _).1 (firstE_pair h)
      obtain ⟨j, hj, rfl⟩ := List.getElem_of_mem hp
      have h4 := h3 j (Nat.zero_le _) (by omega)
      unfold pairE at h4
      have hg : l.getD j P0 = l[j] := by simp [List.getD, hj]
      rw [hg] at h4
      split at h4
      · rename_i h5
        simp only [Bool.and_eq_true] at h5
        exact ⟨nameOk_len h5.1, valueOk_len h5.2⟩
      · cases h4
def addP (s : List UInt8) (p : api_Pair) : List UInt8 := s ++ (59 :: (p.Key ++ 61 :: p.Val))
def textL (n : List UInt8) (l : List api_Pair) : List UInt8 := (srt l).foldl addP n
def dig (n : Int) : UInt8 := toU8 (w64 (48 + n))
def one01 (b : Bool) : Int := if b = true then 1 else 0
/-- a point's key -/
def keyT (p : api_Point) : List UInt8 := textL p.Name p.Attrs ++ [32, dig p.Kind, dig p.Temp, dig (one01 p.Mono)]
theorem chk_label {p : api_Point} (h : chkE p = 0) : labelE p.Name p.Attrs = 0 := by
  unfold chkE at h
  split at h
  · rename_i h1; exact absurd h h1
  · rename_i h1; exact Decidable.not_not.1 h1
end Go.Lg
namespace Go.Lg
attribute [local irreducible] w64 toU64 toU8 shlU shrU shlB shrB
/-! ### flags -/
def fb (a b bit : Int) : Int := if a / bit % 2 = 1 ∨ b / bit % 2 = 1 then bit else 0
/-! ### two points that stand one behind the other -/
structure Nbr (a b : api_Point) : Prop where
  ca : chkE a = 0
  cb : chkE b = 0
  k : a.Kind = b.Kind
  t : a.Temp = b.Temp
  m : a.Mono = b.Mono
  oa : OkH a.Hist
  ob : OkH b.Hist
  ia : I64 a.Int_
  ib : I64 b.Int_
  lb : b.Attrs.length ≤ 1000
end Go.Lg
namespace Go.Lg
attribute [local irreducible] w64 toU64 toU8 shlU shrU shlB shrB
/-! ### keys -/
end Go.Lg
namespace Go.Lg
attribute [local irreducible] w64 toU64 toU8 shlU shrU shlB shrB
structure Pok (p : api_Point) : Prop where
  o : OkH p.Hist
  i : I64 p.Int_
  a : p.Attrs.length ≤ 100
/-! ### Roll -/
structure Inv (cur prev : api_Point) : Prop where
  cc : chkE cur = 0
  cp : chkE prev = 0
  k : cur.Kind = prev.Kind
  t : cur.Temp = prev.Temp
  m : cur.Mono = prev.Mono
  ti : cur.Time = prev.Time
  key : keyT cur = keyT prev
  oc : Pok cur
  op : Pok prev
end Go.Lg
namespace Go.Lg
attribute [local irreducible] w64 toU64 toU8 shlU shrU shlB shrB
/-! ### what the document tells -/
end Go.Lg
namespace Go.Lg
structure api_Fld where
  Num : Int
  Type_ : Int
  V : UInt64
  B : List UInt8
  deriving DecidableEq
structure ref30_Got where
  V : UInt64
  N : Int
  E : Int
  deriving DecidableEq
structure ref30_Message where
  L : List api_Fld
  At : Int
  E : Int
  deriving DecidableEq
noncomputable def wire_Var_lp1 : (UInt64 × List UInt8) → Option (Rnd (UInt64 × List UInt8) (UInt64 × List UInt8) (UInt64 × List UInt8)) := fun (v20, out21) =>
 bif decide (127 < v20) then
 (app out21 [(v20.toUInt8 ||| 128)]).bind fun xs46 =>
 lett (shrU v20 ((7 : UInt64).toNat)) fun v53 =>
 some (.next (v53, xs46))
 else
 some (.brk (v20, out21))
noncomputable def wire_Var (a0 : UInt64) : Option (List UInt8) :=
 (flow (loop (wire_Var_lp1) (a0, [])) fun (v27, out28) =>
 some (v27, out28)).bind fun (v11, out12) =>
 (app out12 [v11.toUInt8]).bind fun xs65 =>
 some xs65
noncomputable def wire_check (a0 : api_Fld) : Option Int :=
 lett (((decide (a0.Num < 1)) || (decide (536870911 < a0.Num)))) fun t22 =>
 bif t22 then
 some 1
 else
 lett (((decide (a0.Type_ < 0)) || (decide (2 < a0.Type_)))) fun t26 =>
 bif t26 then
 some 14
 else
 lett (((!decide (a0.Type_ = 2)) && (decide (0 < (a0.B.length : Int))))) fun t31 =>
 bif t31 then
 bif t31 then
 some 3
 else
 some 0
 else
 lett (((decide (a0.Type_ = 2)) && (!decide (a0.V = 0)))) fun t37 =>
 bif t37 then
 some 3
 else
 some 0
noncomputable def wire_eight_lp1 (a0 : UInt64) (t11 : List UInt8) : (List UInt8 × Int) → Option (Rnd (List UInt8 × Int) (List UInt8) (List UInt8)) := fun (b17, x20) =>
 bif decide (x20 < (t11.length : Int)) then
 (idx b17 x20).bind fun e40 =>
 lett ((shrU a0 ((toU64 (w64 (8 * x20))).toNat)).toUInt8) fun t50 =>
 (setI b17 x20 t50).bind fun xs51 =>
 some (.next (xs51, w64 (x20 + 1)))
 else
 some (.brk b17)
noncomputable def wire_eight (a0 : UInt64) : Option (List UInt8) :=
 (mk 8 (0 : UInt8)).bind fun t11 =>
 flow (loop (wire_eight_lp1 a0 t11) (t11, 0)) fun b24 =>
 some b24
noncomputable def wire_Encode_lp1 (a0 : List api_Fld) : (List UInt8 × Int) → Option (Rnd (List UInt8 × Int) (List UInt8) (List UInt8 × Int)) := fun (out12, x15) =>
 bif decide (x15 < (a0.length : Int)) then
 (idx a0 x15).bind fun e32 =>
 (wire_check e32).bind fun r61 =>
 bif (!decide (r61 = 0)) then
 outr (some ([], r61))
 else
 (wire_Var (toU64 (w64 ((w64 (8 * e32.Num)) + e32.Type_)))).bind fun r73 =>
 (app out12 r73).bind fun xs85 =>
 (lett (decide (e32.Type_ = 0)) fun t105 =>
 bif t105 then
 (wire_Var e32.V).bind fun r107 =>
 (app xs85 r107).bind fun xs119 =>
 some xs119
 else
 lett (decide (e32.Type_ = 1)) fun t129 =>
 bif t129 then
 (wire_eight e32.V).bind fun r131 =>
 (app xs85 r131).bind fun xs143 =>
 some xs143
 else
 lett (decide (e32.Type_ = 2)) fun t153 =>
 bif t153 then
 (wire_Var (toU64 (e32.B.length : Int))).bind fun r158 =>
 (app xs85 r158).bind fun xs170 =>
 (app xs170 e32.B).bind fun xs179 =>
 some xs179
 else
 some xs85).bind fun out97 =>
 some (.next (out97, w64 (x15 + 1)))
 else
 some (.brk out12)
noncomputable def wire_Encode (a0 : List api_Fld) : Option (List UInt8 × Int) :=
 flow (loop (wire_Encode_lp1 a0) ([], 0)) fun out19 =>
 some (out19, 0)
noncomputable def wire_GetVar_lp1 (t15 : List UInt8) : (UInt64 × Int) → Option (Rnd (UInt64 × Int) Unit (UInt64 × Int × Int)) := fun (v19, x20) =>
 bif decide (x20 < (t15.length : Int)) then
 (idx t15 x20).bind fun e28 =>
 bif ((decide (x20 = 9)) && (decide (1 < e28))) then
 outr (some (0, 0, 3))
 else
 lett ((v19 ||| (shlU ((e28 &&& 127).toUInt64) ((toU64 (w64 (7 * x20))).toNat)))) fun v43 =>
 bif decide (e28 < 128) then
 bif ((decide (e28 = 0)) && (decide (0 < x20))) then
 outr (some (0, 0, 3))
 else
 lett (w64 (x20 + 1)) fun nv48 =>
 outr (some (v43, nv48, 0))
 else
 some (.next (v43, w64 (x20 + 1)))
 else
 some (.brk ())
noncomputable def wire_GetVar (a0 : List UInt8) (a1 : Int) : Option (UInt64 × Int × Int) :=
 bif ((decide (a1 < 0)) || (decide ((a0.length : Int) < a1))) then
 some (0, 0, 1)
 else
 (slc a0 a1 (a0.length : Int)).bind fun t15 =>
 flow (loop (wire_GetVar_lp1 t15) (0, 0)) fun (_ : Unit) =>
 some (0, 0, 2)
noncomputable def wire_field_lp1 (t67 : List UInt8) : (UInt64 × Int) → Option (Rnd (UInt64 × Int) UInt64 UInt64) := fun (c79, x80) =>
 bif decide (x80 < (t67.length : Int)) then
 (idx t67 x80).bind fun e96 =>
 lett ((c79 ||| (shlU e96.toUInt64 ((toU64 (w64 (8 * x80))).toNat)))) fun t109 =>
 some (.next (t109, w64 (x80 + 1)))
 else
 some (.brk c79)
noncomputable def wire_field (a0 : List UInt8) (a1 : Int) : Option (api_Fld × Int × Int) :=
 (wire_GetVar a0 a1).bind fun (r18, r19, r20) =>
 bif (!decide (r20 = 0)) then
 some ((api_Fld.mk 0 0 0 []), 0, r20)
 else
 lett (w64 (a1 + r19)) fun at35 =>
 bif decide (2 < (r18 &&& 7)) then
 some ((api_Fld.mk 0 0 0 []), 0, 14)
 else
 bif ((decide (shrU r18 ((3 : UInt64).toNat) < 1)) || (decide (536870911 < shrU r18 ((3 : UInt64).toNat)))) then
 some ((api_Fld.mk 0 0 0 []), 0, 1)
 else
 lett (w64 ((shrU r18 ((3 : UInt64).toNat)).toNat : Int)) fun t49 =>
 lett (w64 ((r18 &&& 7).toNat : Int)) fun t54 =>
 bif decide (t54 = 1) then
 bif decide (w64 ((a0.length : Int) - at35) < 8) then
 some ((api_Fld.mk t49 t54 0 []), 0, 2)
 else
 (slc a0 at35 (w64 (at35 + 8))).bind fun t67 =>
 (flow (loop (wire_field_lp1 t67) (0, 0)) fun c85 =>
 some c85).bind fun c72 =>
 lett (w64 (at35 + 8)) fun next116 =>
 some ((api_Fld.mk t49 t54 c72 []), next116, 0)
 else
 (wire_GetVar a0 at35).bind fun (r121, r122, r123) =>
 bif (!decide (r123 = 0)) then
 some ((api_Fld.mk t49 t54 0 []), 0, r123)
 else
 lett (w64 (at35 + r122)) fun at138 =>
 bif decide (t54 = 0) then
 some ((api_Fld.mk t49 t54 r121 []), at138, 0)
 else
 bif decide (toU64 (w64 ((a0.length : Int) - at138)) < r121) then
 some ((api_Fld.mk t49 t54 0 []), 0, 2)
 else
 (slc a0 at138 (w64 (at138 + (w64 (r121.toNat : Int))))).bind fun t154 =>
 (bytes_Clone t154).bind fun r158 =>
 lett (w64 (at138 + (w64 (r121.toNat : Int)))) fun next181 =>
 some ((api_Fld.mk t49 t54 0 r158), next181, 0)
noncomputable def wire_Decode_lp1 (a0 : List UInt8) : (List api_Fld × Int) → Option (Rnd (List api_Fld × Int) (List api_Fld) (List api_Fld × Int × Int)) := fun (l12, at15) =>
 bif decide (at15 < (a0.length : Int)) then
 (wire_field a0 at15).bind fun (r33, r34, r35) =>
 bif (!decide (r35 = 0)) then
 outr (some ([], at15, r35))
 else
 (app l12 [r33]).bind fun xs68 =>
 some (.next (xs68, r34))
 else
 some (.brk l12)
noncomputable def wire_Decode (a0 : List UInt8) : Option (List api_Fld × Int × Int) :=
 flow (loop (wire_Decode_lp1 a0) ([], 0)) fun l19 =>
 some (l19, 0, 0)
noncomputable def ref30_VarB (rec_ : UInt64 → Option (List UInt8)) (a0 : UInt64) : Option (List UInt8) :=
 bif decide (a0 < 128) then
 some [a0.toUInt8]
 else
 (rec_ (a0 / 128)).bind fun r23 =>
 (app [((128 : UInt64) + (a0 % 128)).toUInt8] r23).bind fun xs35 =>
 some xs35
noncomputable def ref30_VarN : Nat → UInt64 → Option (List UInt8)
  | 0 => fun _ => none
  | k + 1 => ref30_VarB (ref30_VarN k)
noncomputable def ref30_Var (a0 : UInt64) : Option (List UInt8) :=
  fuel fun k => ref30_VarN k a0
noncomputable def ref30_fix_lp1 : (UInt64 × List UInt8 × Int) → Option (Rnd (UInt64 × List UInt8 × Int) (List UInt8) (List UInt8)) := fun (v11, s12, i13) =>
 bif decide (i13 < 8) then
 (app s12 [(v11 % 256).toUInt8]).bind fun t33 =>
 lett ((v11 / 256)) fun v34 =>
 lett (w64 (i13 + 1)) fun i35 =>
 some (.next (v34, t33, i35))
 else
 some (.brk s12)
noncomputable def ref30_fix (a0 : UInt64) : Option (List UInt8) :=
 flow (loop (ref30_fix_lp1) (a0, [], 0)) fun s17 =>
 some s17
noncomputable def ref30_Encode_lp1 (a0 : List api_Fld) : (List UInt8 × Int) → Option (Rnd (List UInt8 × Int) (List UInt8) (List UInt8 × Int)) := fun (s12, i13) =>
 bif decide (i13 < (a0.length : Int)) then
 flow ((idx a0 i13).bind fun e35 =>
 bif ((decide (e35.Num < 1)) || (decide (536870911 < e35.Num))) then
 outs (outr (some ([], 1)))
 else
 bif ((decide (e35.Type_ < 0)) || (decide (2 < e35.Type_))) then
 outs (outr (some ([], 14)))
 else
 bif (((decide (e35.Type_ = 2)) && (!decide (e35.V = 0))) || ((decide (e35.Type_ < 2)) && (decide (0 < (e35.B.length : Int))))) then
 outs (outr (some ([], 3)))
 else
 (ref30_Var (((toU64 e35.Num) * 8) + (toU64 e35.Type_))).bind fun r74 =>
 (app s12 r74).bind fun t86 =>
 (bif decide (e35.Type_ = 0) then
 (ref30_Var e35.V).bind fun r95 =>
 (app t86 r95).bind fun t107 =>
 some t107
 else
 some t86).bind fun s87 =>
 (bif decide (e35.Type_ = 1) then
 (ref30_fix e35.V).bind fun r117 =>
 (app s87 r117).bind fun t126 =>
 some t126
 else
 some s87).bind fun s108 =>
 bif decide (e35.Type_ = 2) then
 (ref30_Var (toU64 (e35.B.length : Int))).bind fun r173 =>
 (app s108 r173).bind fun t189 =>
 (app t189 e35.B).bind fun t193 =>
 some (.go t193)
 else
 some (.go s108)) fun s29 =>
 lett (w64 (i13 + 1)) fun i200 =>
 some (.next (s29, i200))
 else
 some (.brk s12)
noncomputable def ref30_Encode (a0 : List api_Fld) : Option (List UInt8 × Int) :=
 flow (loop (ref30_Encode_lp1 a0) ([], 0)) fun s17 =>
 some (s17, 0)
noncomputable def ref30_GetVar_lp1 (a0 : List UInt8) (a1 : Int) : Int → Option (Rnd Int Int (Flow Int ref30_Got)) := fun nv27 =>
 (bif decide (w64 (a1 + nv27) < (a0.length : Int)) then
 (idx a0 (w64 (a1 + nv27))).bind fun e40 =>
 some (decide (128 ≤ e40))
 else
 some false).bind fun x36 =>
 bif x36 then
 bif decide (nv27 = 9) then
 outr (outs (some (ref30_Got.mk 0 0 3)))
 else
 lett (w64 (nv27 + 1)) fun nv58 =>
 some (.next nv58)
 else
 some (.brk nv27)
noncomputable def ref30_GetVar_lp2 (a0 : List UInt8) (a1 : Int) : (UInt64 × Int) → Option (Rnd (UInt64 × Int) UInt64 UInt64) := fun (v109, i110) =>
 bif decide (0 ≤ i110) then
 (idx a0 (w64 (a1 + i110))).bind fun e119 =>
 lett ((((128 : UInt64) * v109) + ((e119 % 128).toUInt64))) fun v131 =>
 lett (w64 (i110 - 1)) fun i132 =>
 some (.next (v131, i132))
 else
 some (.brk v109)
noncomputable def ref30_GetVar (a0 : List UInt8) (a1 : Int) : Option ref30_Got :=
 bif ((decide (a1 < 0)) || (decide ((a0.length : Int) < a1))) then
 some (ref30_Got.mk 0 0 1)
 else
 flow (flow (loop (ref30_GetVar_lp1 a0 a1) 0) fun nv28 =>
 some (.go nv28)) fun nv24 =>
 bif decide (w64 (a1 + nv24) = (a0.length : Int)) then
 some (ref30_Got.mk 0 0 2)
 else
 (bif decide (nv24 = 9) then
 (idx a0 (w64 (a1 + nv24))).bind fun e69 =>
 some (decide (1 < e69))
 else
 some false).bind fun x65 =>
 (bif x65 then
 some true
 else
 (bif decide (0 < nv24) then
 (idx a0 (w64 (a1 + nv24))).bind fun e89 =>
 some (decide (e89 = 0))
 else
 some false).bind fun x85 =>
 some x85).bind fun x81 =>
 bif x81 then
 some (ref30_Got.mk 0 0 3)
 else
 (flow (loop (ref30_GetVar_lp2 a0 a1) (0, nv24)) fun v111 =>
 some v111).bind fun v106 =>
 some (ref30_Got.mk v106 (w64 (nv24 + 1)) 0)
noncomputable def ref30_Decode_lp2 (a0 : List UInt8) (k103 : Int) : (UInt64 × Int) → Option (Rnd (UInt64 × Int) UInt64 UInt64) := fun (c140, i141) =>
 bif decide (0 ≤ i141) then
 (idx a0 (w64 (k103 + i141))).bind fun e160 =>
 lett ((((256 : UInt64) * c140) + e160.toUInt64)) fun t174 =>
 lett (w64 (i141 - 1)) fun i178 =>
 some (.next (t174, i178))
 else
 some (.brk c140)
noncomputable def ref30_Decode_lp1 (a0 : List UInt8) : (List api_Fld × Int) → Option (Rnd (List api_Fld × Int) (List api_Fld) ref30_Message) := fun (l17, at20) =>
 bif decide (at20 < (a0.length : Int)) then
 flow ((ref30_GetVar a0 at20).bind fun r48 =>
 bif (!decide (r48.E = 0)) then
 outs (outr (some (ref30_Message.mk [] at20 r48.E)))
 else
 bif decide (2 < (r48.V % 8)) then
 outs (outr (some (ref30_Message.mk [] at20 14)))
 else
 bif ((decide ((r48.V / 8) < 1)) || (decide (536870911 < (r48.V / 8)))) then
 outs (outr (some (ref30_Message.mk [] at20 1)))
 else
 lett (w64 (at20 + r48.N)) fun k103 =>
 flow (bif decide (w64 ((r48.V % 8).toNat : Int) = 1) then
 bif decide (w64 ((a0.length : Int) - k103) < 8) then
 outs (outs (outr (some (ref30_Message.mk [] at20 2))))
 else
 (flow (loop (ref30_Decode_lp2 a0 k103) (0, 7)) fun c146 =>
 some c146).bind fun c133 =>
 lett (w64 (k103 + 8)) fun k179 =>
 some (.go (c133, [], k179))
 else
 (ref30_GetVar a0 k103).bind fun r185 =>
 bif (!decide (r185.E = 0)) then
 outs (outs (outr (some (ref30_Message.mk [] at20 r185.E))))
 else
 lett (w64 (k103 + r185.N)) fun k216 =>
 bif decide (w64 ((r48.V % 8).toNat : Int) = 0) then
 some (.go (r185.V, [], k216))
 else
 bif decide (toU64 (w64 ((a0.length : Int) - k216)) < r185.V) then
 outs (outs (outr (some (ref30_Message.mk [] at20 2))))
 else
 (slc a0 k216 (w64 (k216 + (w64 (r185.V.toNat : Int))))).bind fun t241 =>
 lett (w64 (k216 + (w64 (r185.V.toNat : Int)))) fun k253 =>
 some (.go (0, t241, k253))) fun (c105, c106, k109) =>
 (app l17 [(api_Fld.mk (w64 ((r48.V / 8).toNat : Int)) (w64 ((r48.V % 8).toNat : Int)) c105 c106)]).bind fun xs264 =>
 some (.go (xs264, k109))) fun (l39, at42) =>
 some (.next (l39, at42))
 else
 some (.brk l17)
noncomputable def ref30_Decode (a0 : List UInt8) : Option ref30_Message :=
 flow (loop (ref30_Decode_lp1 a0) ([], 0)) fun l24 =>
 some (ref30_Message.mk l24 0 0)
noncomputable def wire_All_lp1 (a0 : List api_Fld) (a1 : Int) : (List api_Fld × Int) → Option (Rnd (List api_Fld × Int) (List api_Fld) (List api_Fld)) := fun (out12, x15) =>
 bif decide (x15 < (a0.length : Int)) then
 ((idx a0 x15).bind fun e40 =>
 bif decide (e40.Num = a1) then
 (bytes_Clone e40.B).bind fun r70 =>
 (app out12 [(api_Fld.mk e40.Num e40.Type_ e40.V r70)]).bind fun xs99 =>
 some xs99
 else
 some out12).bind fun out32 =>
 some (.next (out32, w64 (x15 + 1)))
 else
 some (.brk out12)
noncomputable def wire_All (a0 : List api_Fld) (a1 : Int) : Option (List api_Fld) :=
 flow (loop (wire_All_lp1 a0 a1) ([], 0)) fun out19 =>
 some out19
noncomputable def wire_Last (a0 : List api_Fld) (a1 : Int) : Option (api_Fld × Bool) :=
 (wire_All a0 a1).bind fun r18 =>
 bif decide ((r18.length : Int) = 0) then
 some ((api_Fld.mk 0 0 0 []), false)
 else
 (idx r18 (w64 ((r18.length : Int) - 1))).bind fun e36 =>
 some (e36, true)
noncomputable def wire_Packed_lp1 (a0 : List UInt64) : (List UInt8 × Int) → Option (Rnd (List UInt8 × Int) (List UInt8) (List UInt8)) := fun (out12, x15) =>
 bif decide (x15 < (a0.length : Int)) then
 (idx a0 x15).bind fun e32 =>
 (wire_Var e32).bind fun r45 =>
 (app out12 r45).bind fun xs57 =>
 some (.next (xs57, w64 (x15 + 1)))
 else
 some (.brk out12)
noncomputable def wire_Packed (a0 : List UInt64) : Option (List UInt8) :=
 flow (loop (wire_Packed_lp1 a0) ([], 0)) fun out19 =>
 some out19
noncomputable def wire_Unpacked_lp1 (a0 : List UInt8) : (List UInt64 × Int) → Option (Rnd (List UInt64 × Int) (List UInt64) (List UInt64 × Int)) := fun (out12, at15) =>
 bif decide (at15 < (a0.length : Int)) then
 (wire_GetVar a0 at15).bind fun (r33, r34, r35) =>
 bif (!decide (r35 = 0)) then
 outr (some ([], r35))
 else
 (app out12 [r33]).bind fun xs51 =>
 lett (w64 (at15 + r34)) fun at59 =>
 some (.next (xs51, at59))
 else
 some (.brk out12)
noncomputable def wire_Unpacked (a0 : List UInt8) : Option (List UInt64 × Int) :=
 flow (loop (wire_Unpacked_lp1 a0) ([], 0)) fun out19 =>
 some (out19, 0)
def rep_api_Fld : Rep api_Fld := Rep.via (Rep.pair Rep.i (Rep.pair Rep.i (Rep.pair Rep.u (Rep.sl Rep.b)))) fun d => (d.Num, d.Type_, d.V, d.B)
end Go.Lg
namespace Go.Lg
structure glob_set where
  a0 : UInt64
  a1 : UInt64
  a2 : UInt64
  a3 : UInt64
  deriving DecidableEq
structure glob_piece where
  kind : Int
  set : glob_set
  plain : Bool
  c : UInt8
  deriving DecidableEq
structure glob_fault where
  at_ : Int
  e : Int
  deriving DecidableEq
structure glob_Glob where
  text : List UInt8
  pieces : List glob_piece
  deriving DecidableEq
structure ref32_Thing where
  C : UInt8
  Next : Int
  deriving DecidableEq
structure ref32_Piece where
  Many : Bool
  Plain : Bool
  In : List Bool
  C : UInt8
  deriving DecidableEq
structure ref32_Got where
  L : List ref32_Piece
  At : Int
  E : Int
  deriving DecidableEq
end Go.Lg
namespace Go.Lg
attribute [local irreducible] w64 toU64 toU8 shlU shrU shlB shrB
/-- a piece: any bytes, or one byte of a set -/
inductive Pc where
  | some
  | one (f : UInt8 → Bool)
end Go.Lg
namespace Go.Lg
attribute [local irreducible] w64 toU64 toU8 shlU shrU shlB shrB
/-- the word of a set that holds a byte's bit -/
def wdS (S : glob_set) (c : UInt8) : UInt64 := if c.toNat / 64 = 0 then S.a0 else if c.toNat / 64 = 1 then S.a1 else if c.toNat / 64 = 2 then S.a2 else S.a3
end Go.Lg
namespace Go.Lg
attribute [local irreducible] w64 toU64 toU8 shlU shrU shlB shrB
section
variable {ps : List Pc} {s : List UInt8} {a i k : Nat} {b : Int}
end
end Go.Lg
namespace Go.Lg
attribute [local irreducible] w64 toU64 toU8 shlU shrU shlB shrB
/-- a set with a byte more -/
def addSt (S : glob_set) (c : UInt8) : glob_set :=
  let x := wdS S c ||| shlU 1 (((c % 64).toUInt64).toNat)
  ⟨up4 ((c / 64).toNat : Int) 0 x S.a0, up4 ((c / 64).toNat : Int) 1 x S.a1, up4 ((c / 64).toNat : Int) 2 x S.a2, up4 ((c / 64).toNat : Int) 3 x S.a3⟩
/-- all from a byte on, so many -/
def spanS (S : glob_set) : Nat → Nat → glob_set
  | _, 0 => S
  | lo, n + 1 => spanS (addSt S (toU8 (lo : Int))) (lo + 1) n
/-- all others -/
def notS (S : glob_set) : glob_set := ⟨~~~S.a0, ~~~S.a1, ~~~S.a2, ~~~S.a3⟩
def nilS : glob_set := ⟨0, 0, 0, 0⟩
def fullS : glob_set := spanS nilS 0 256
/-! ### as rows -/
/-! ### the loops -/
end Go.Lg
namespace Go.Lg
attribute [local irreducible] w64 toU64 toU8 shlU shrU shlB shrB
/-- how far off the "]" is that ends a set -/
def endL : List UInt8 → Option Nat
  | [] => none
  | [c] => if c = 93 then some 0 else none
  | c :: d :: r => if c = 93 then some 0 else if c = 92 then (endL r).map (· + 2) else (endL (d :: r)).map (· + 1)
/-- the byte ahead, and how many bytes it takes -/
def mem32 : List UInt8 → Option (UInt8 × Nat)
  | [] => none
  | [c] => if c = 92 then none else some (c, 1)
  | c :: d :: _ => if c = 92 then some (d, 2) else some (c, 1)
def offS (k : Nat) (o : Option (Nat ⊕ glob_set)) : Option (Nat ⊕ glob_set) := o.map fun
  | .inl a => .inl (k + a)
  | .inr S => .inr S
/-- is a "-" there that stands between two bytes -/
def dash (l : List UInt8) : Option Bool := l.head?.bind fun x => if x = 45 then l.tail.head?.bind fun y => some (decide (y ≠ 93 ∧ y ≠ 45)) else some false
/-- what a set holds beside those that are known; or how far off its fault is -/
def clsS : Nat → glob_set → List UInt8 → Option (Nat ⊕ glob_set)
  | 0, _, _ => none
  | n + 1, S, l => l.head?.bind fun c =>
    if c = 93 then some (.inr S)
    else if c = 45 then l.tail.head?.bind fun d => if d = 93 then offS 1 (clsS n (addSt S 45) l.tail) else some (.inl 0)
    else (mem32 l).bind fun x => (dash (l.drop x.2)).bind fun b =>
      if b = true then (mem32 ((l.drop x.2).tail)).bind fun y =>
        if y.1 < x.1 then some (.inl 0) else offS (x.2 + 1 + y.2) (clsS n (spanS S x.1.toNat (y.1.toNat + 1 - x.1.toNat)) (l.drop (x.2 + 1 + y.2)))
      else offS x.2 (clsS n (spanS S x.1.toNat 1) (l.drop x.2))
end Go.Lg
namespace Go.Lg
attribute [local irreducible] w64 toU64 toU8 shlU shrU shlB shrB
section
variable {s : List UInt8} {p : Nat} {c : UInt8}
end
end Go.Lg
namespace Go.Lg
attribute [local irreducible] w64 toU64 toU8 shlU shrU shlB shrB
/-! ### a set -/
def bang (r : List UInt8) : Nat := if r.head? = some 33 then 1 else 0
def classS (r : List UInt8) : (Nat × Int) ⊕ (glob_piece × Nat) :=
  match endL (r.drop (bang r)) with
  | none => .inl (0, 2)
  | some 0 => .inl (0, 3)
  | some (k + 1) => match clsS (k + 2) nilS (r.drop (bang r)) with
    | none => .inl (0, 1)
    | some (.inl o) => .inl (1 + bang r + o, 3)
    | some (.inr S) => .inr (⟨0, if bang r = 1 then notS S else S, false, 0⟩, 1 + bang r + (k + 1) + 1)
end Go.Lg
namespace Go.Lg
attribute [local irreducible] w64 toU64 toU8 shlU shrU shlB shrB spanS
def byteP (c : UInt8) : glob_piece := ⟨0, addSt nilS c, true, c⟩
/-- the piece ahead and how many bytes it takes; or how far off the fault is, and which -/
def nextS : List UInt8 → (Nat × Int) ⊕ (glob_piece × Nat)
  | [] => .inl (0, 1)
  | c :: r => if c = 42 then .inr (⟨1, nilS, false, 0⟩, 1) else if c = 63 then .inr (⟨0, fullS, false, 0⟩, 1) else if c = 91 then classS r
    else if c = 92 then (match r.head? with
      | none => .inl (0, 2)
      | some d => .inr (byteP d, 2))
    else .inr (byteP c, 1)
/-! ### piece by piece -/
def compS : Nat → Nat → List UInt8 → (Nat × Int) ⊕ List glob_piece
  | 0, _, _ => .inr []
  | n + 1, p, l => if l = [] then .inr [] else match nextS l with
    | .inl x => .inl (p + x.1, x.2)
    | .inr x => match compS n (p + x.2) (l.drop x.2) with
      | .inl y => .inl y
      | .inr ps => .inr (x.1 :: ps)
def comp (s : List UInt8) : (Nat × Int) ⊕ List glob_piece := if 64 < s.length then .inl (64, 4) else compS (s.length + 1) 0 s
end Go.Lg
namespace Go.Lg
attribute [local irreducible] w64 toU64 toU8 shlU shrU shlB shrB spanS
/-! ### the document's Match -/
/-! ### the one text -/
/-! ### what the document tells -/
/-! ### the laws -/
end Go.Lg
namespace Go.Lg
structure api_Rule where
  Kind : Int
  Key : List UInt8
  Glob : List UInt8
  To : List UInt8
  Val : List UInt8
  deriving DecidableEq
structure relabel_rule where
  Rule : api_Rule
  g : Option glob_Glob
  deriving DecidableEq
structure relabel_Rules where
  l : List relabel_rule
  deriving DecidableEq
structure ref33_Through where
  P : api_Point
  Stop : Int
  deriving DecidableEq
structure ref33_Got where
  P : api_Point
  Kept : Bool
  E : Int
  deriving DecidableEq
end Go.Lg
namespace Go.Lg
attribute [local irreducible] w64 toU64 toU8 shlU shrU shlB shrB spanS
/-! ### the first that is sought -/
/-! ### all but some -/
end Go.Lg
namespace Go.Lg
attribute [local irreducible] w64 toU64 toU8 shlU shrU shlB shrB spanS
/-- what a right rule is -/
structure GoodR (r : api_Rule) : Prop where
  k : 1 ≤ r.Kind ∧ r.Kind ≤ 5
  c : ∃ ps, comp r.Glob = .inr ps
  n : r.Key = [] ∨ nameOk r.Key = true
  k4 : r.Kind = 4 → r.Key ≠ [] ∧ nameOk r.To = true
  k3 : r.Kind = 3 → nameOk r.To = true ∧ valueOk r.Val = true
end Go.Lg
namespace Go.Lg
attribute [local irreducible] w64 toU64 toU8 shlU shrU shlB shrB spanS
/-- an attribute's value -/
def getA (l : List api_Pair) (k : List UInt8) : Option (List UInt8) := (l.find? fun a => decide (a.Key = k)).map (·.Val)
def looked (r : api_Rule) (n : List UInt8) (l : List api_Pair) : Option (List UInt8) := if r.Key = [] then some n else getA l r.Key
/-- texts that are not too long -/
structure Sh (n : List UInt8) (l : List api_Pair) : Prop where
  n : n.length ≤ 1000
  kv : ∀ a ∈ l, a.Key.length ≤ 1000 ∧ a.Val.length ≤ 1000
section
variable {r : api_Rule} {n : List UInt8} {l : List api_Pair} {p : api_Point}
end
end Go.Lg
namespace Go.Lg
attribute [local irreducible] w64 toU64 toU8 shlU shrU shlB shrB spanS
/-- attributes that are right but for how many they are -/
structure GA (l : List api_Pair) : Prop where
  g : ∀ a ∈ l, nameOk a.Key = true ∧ valueOk a.Val = true
  u : (l.map (·.Key)).Nodup
section
variable {r : api_Rule} {n : List UInt8} {l l' : List api_Pair} {p : api_Point}
end
/-! ### the document's -/
end Go.Lg
namespace Go.Lg
attribute [local irreducible] w64 toU64 toU8 shlU shrU shlB shrB spanS
theorem ga_of {n : List UInt8} {l : List api_Pair} (h : labelE n l = 0) : GA l := by
  unfold labelE at h
  split at h
  · cases h
  · split at h
    · cases h
    · have h3 := (firstE_none _ _).1 (firstE_pair h)
      have key : ∀ (j : Nat) (hj : j < l.length), (nameOk l[j].Key = true ∧ valueOk l[j].Val = true) ∧ ∀ k (hk : k < j), (l[k]'(by omega)).Key ≠ l[j].Key := by
        intro j hj
        have h4 := h3 j (Nat.zero_le _) (by omega)
        unfold pairE at h4
        have hg : ∀ k (hk : k < l.length), l.getD k P0 = l[k] := fun k hk => by simp [List.getD, hk]
        rw [hg j hj] at h4
        split at h4
        · rename_i h5
          split at h4
          · cases h4
          · rename_i h6
            simp only [Bool.and_eq_true] at h5
            refine ⟨h5, fun k hk e => h6 ?_⟩
            unfold dupB
            rw [decide_eq_true_eq]
            exact ⟨k, hk, by rw [hg k (by omega), hg j hj]; exact e⟩
        · cases h4
      refine ⟨fun a ha => ?_, ?_⟩
      · obtain ⟨j, hj, rfl⟩ := List.getElem_of_mem ha
        exact (key j hj).1
      · unfold List.Nodup
        rw [List.pairwise_iff_getElem]
        intro i j hi hj hij
        rw [List.length_map] at hi hj
        rw [List.getElem_map, List.getElem_map]
        exact (key j hj).2 i hij
theorem labelE_ga {n : List UInt8} {l : List api_Pair} (h : GA l) : labelE n l = if nameOk n = false then 3 else if 4 < l.length then 4 else 0 := by
  unfold labelE
  split
  · rfl
  · split
    · rfl
    · have : firstE (pairE l) l.length 0 = none := (firstE_none _ _).2 fun j _ hj => by
        have hj' : j < l.length := by omega
        have hg : ∀ k (hk : k < l.length), l.getD k P0 = l[k] := fun k hk => by simp [List.getD, hk]
        unfold pairE
        have h1 := h.g _ (List.getElem_mem hj')
        rw [hg j hj', h1.1, h1.2, Bool.and_self, if_pos rfl, if_neg]
        unfold dupB
        rw [decide_eq_true_eq]
        rintro ⟨k, hk, e⟩
        rw [hg k (by omega), hg j hj'] at e
        have hu := h.u
        unfold List.Nodup at hu
        rw [List.pairwise_iff_getElem] at hu
        exact hu k j (by rw [List.length_map]; omega) (by rw [List.length_map]; omega) hk (by rw [List.getElem_map, List.getElem_map]; exact e)
      rw [this]; rfl
section
variable {rs : List api_Rule} (gr : ∀ r ∈ rs, GoodR r) (hr : rs.length ≤ 100) {p : api_Point} (o : OkH p.Hist)
include gr hr o
end
/-! ### what the document tells -/
end Go.Lg
namespace Go.Lg
attribute [local irreducible] w64 toU64 toU8 shlU shrU shlB shrB spanS
theorem sl_asymm : ∀ {a b : List UInt8}, sLess a b = true → sLess b a = false
  | [], [], h => by simp [sLess] at h
  | [], _ :: _, _ => by simp [sLess]
  | _ :: _, [], h => by simp [sLess] at h
  | x :: a, y :: b, h => by
    simp only [sLess, Bool.or_eq_true, Bool.and_eq_true, decide_eq_true_eq, UInt8.lt_iff_toNat_lt] at h
    simp only [sLess, Bool.or_eq_false_iff, Bool.and_eq_false_iff, decide_eq_false_iff_not, UInt8.lt_iff_toNat_lt]
    rcases h with h | ⟨rfl, h⟩
    · exact ⟨by omega, .inl fun e => by rw [e] at h; omega⟩
    · exact ⟨by omega, .inr (sl_asymm h)⟩
theorem sl_trans : ∀ {a b c : List UInt8}, sLess a b = true → sLess b c = true → sLess a c = true
  | _, [], _, h, _ => by simp [sLess] at h
  | _, _ :: _, [], _, h => by simp [sLess] at h
  | [], _ :: _, _ :: _, _, _ => by simp [sLess]
  | x :: a, y :: b, z :: c, h, k => by
    simp only [sLess, Bool.or_eq_true, Bool.and_eq_true, decide_eq_true_eq, UInt8.lt_iff_toNat_lt] at *
    rcases h with h | ⟨rfl, h⟩
    · rcases k with k | ⟨rfl, k⟩
      · left; omega
      · left; exact h
    · rcases k with k | ⟨rfl, k⟩
      · left; exact k
      · right; exact ⟨rfl, sl_trans h k⟩
theorem sl_tri : ∀ {a b : List UInt8}, sLess a b = false → sLess b a = false → a = b
  | [], [], _, _ => rfl
  | [], _ :: _, h, _ => by simp [sLess] at h
  | _ :: _, [], _, h => by simp [sLess] at h
  | x :: a, y :: b, h, k => by
    simp only [sLess, Bool.or_eq_false_iff, Bool.and_eq_false_iff, decide_eq_false_iff_not, UInt8.lt_iff_toNat_lt] at h k
    have e : x = y := UInt8.toNat_inj.1 (by omega)
    subst e
    have h2 : sLess a b = false := h.2.resolve_left fun f => f rfl
    have k2 : sLess b a = false := k.2.resolve_left fun f => f rfl
    rw [sl_tri h2 k2]
/-- by the keys, each one but once -/
abbrev Srt (l : List api_Pair) : Prop := l.Pairwise fun a b => sLess a.Key b.Key = true
theorem insK_perm (out : List api_Pair) (x : api_Pair) : List.Perm (insK out x) (x :: out) := by
  unfold insK
  refine List.perm_middle.trans ?_
  rw [List.take_append_drop]
theorem foldK_perm : ∀ (l out : List api_Pair), List.Perm (l.foldl insK out) (l ++ out)
  | [], out => List.Perm.refl _
  | x :: l, out => by
    rw [List.foldl_cons]
    refine (foldK_perm l (insK out x)).trans ?_
    refine ((insK_perm out x).append_left l).trans ?_
    exact List.perm_middle
theorem srt_perm (l : List api_Pair) : List.Perm (srt l) l := by
  have := foldK_perm l []
  rwa [List.append_nil] at this
theorem posK_spec {out : List api_Pair} {x : api_Pair} : ∀ {k : Nat}, k ≤ out.length → (∀ i, posK out x k ≤ i → i < k → sLess x.Key (out.getD i P0).Key = true) ∧ (0 < posK out x k → sLess x.Key (out.getD (posK out x k - 1) P0).Key = false)
  | 0, _ => ⟨fun i _ h => by omega, fun h => by simp [posK] at h⟩
  | k + 1, hk => by
    unfold posK
    by_cases h : sLess x.Key (out.getD k P0).Key = true
    · rw [if_pos h]
      have ih := posK_spec (out := out) (x := x) (k := k) (by omega)
      refine ⟨fun i h1 h2 => ?_, ih.2⟩
      by_cases e : i = k
      · subst e; exact h
      · exact ih.1 i h1 (by omega)
    · rw [if_neg h]
      exact ⟨fun i h1 h2 => by omega, fun _ => by rw [Nat.add_sub_cancel]; simpa using h⟩
theorem insK_srt {out : List api_Pair} {x : api_Pair} (h : Srt out) (hx : ∀ a ∈ out, a.Key ≠ x.Key) : Srt (insK out x) := by
  obtain ⟨h1, h2⟩ := posK_spec (out := out) (x := x) (Nat.le_refl out.length)
  have hle := posK_le out x out.length
  unfold insK
  generalize posK out x out.length = q at *
  have hg : ∀ i (hi : i < out.length), out.getD i P0 = out[i] := fun i hi => by simp [List.getD, hi]
  have hp := List.pairwise_iff_getElem.1 h
  have hbig : ∀ b ∈ out.drop q, sLess x.Key b.Key = true := by
    intro b hb
    obtain ⟨i, hi, rfl⟩ := List.getElem_of_mem hb
    rw [List.length_drop] at hi
    rw [List.getElem_drop, ← hg (q + i) (by omega)]
    exact h1 (q + i) (by omega) (by omega)
  have hsm : ∀ a ∈ out.take q, sLess a.Key x.Key = true := by
    intro a ha
    obtain ⟨i, hi, rfl⟩ := List.getElem_of_mem ha
    rw [List.length_take] at hi
    rw [List.getElem_take]
    have h3 := h2 (by omega)
    rw [hg (q - 1) (by omega)] at h3
    have h4 : sLess (out[q - 1]'(by omega)).Key x.Key = true := by
      by_cases e : sLess (out[q - 1]'(by omega)).Key x.Key = true
      · exact e
      · exact absurd (sl_tri (by simpa using e) h3) (hx _ (List.getElem_mem _))
    by_cases e : i = q - 1
    · subst e; exact h4
    · exact sl_trans (hp i (q - 1) (by omega) (by omega) (by omega)) h4
  have hs : Srt (out.take q ++ out.drop q) := by rw [List.take_append_drop]; exact h
  rw [Srt, List.pairwise_append] at hs
  rw [Srt, List.pairwise_append]
  refine ⟨hs.1, List.pairwise_cons.2 ⟨hbig, hs.2.1⟩, fun a ha b hb => ?_⟩
  rcases List.mem_cons.1 hb with rfl | hb
  · exact hsm a ha
  · exact hs.2.2 a ha b hb
theorem foldK_srt : ∀ (l out : List api_Pair), Srt out → ((l ++ out).map (·.Key)).Nodup → Srt (l.foldl insK out)
  | [], out, h, _ => h
  | x :: l, out, h, hu => by
    rw [List.foldl_cons]
    have hu' := hu
    rw [List.cons_append, List.map_cons, List.nodup_cons] at hu'
    refine foldK_srt l (insK out x) (insK_srt h fun a ha e => hu'.1 ?_) ?_
    · rw [← e]; exact List.mem_map_of_mem (List.mem_append_right _ ha)
    · have hp : List.Perm (l ++ insK out x) (x :: l ++ out) := ((insK_perm out x).append_left l).trans List.perm_middle
      exact (hp.map _).nodup_iff.2 hu
theorem srt_srt {l : List api_Pair} (h : (l.map (·.Key)).Nodup) : Srt (srt l) := foldK_srt l [] List.Pairwise.nil (by rwa [List.append_nil])
theorem srt_uniq {l m : List api_Pair} (hl : Srt l) (hm : Srt m) (h : List.Perm l m) : l = m := by
  refine List.Perm.eq_of_pairwise (le := fun a b => sLess a.Key b.Key = true) (fun a b _ _ h1 h2 => ?_) hl hm h
  rw [sl_asymm h1] at h2; cases h2
theorem srt_eq {l m : List api_Pair} (hl : (l.map (·.Key)).Nodup) (h : List.Perm l m) : srt l = srt m :=
  srt_uniq (srt_srt hl) (srt_srt ((h.map _).nodup_iff.1 hl)) ((srt_perm l).trans (h.trans (srt_perm m).symm))
theorem srt_self {l : List api_Pair} (hl : (l.map (·.Key)).Nodup) : srt (srt l) = srt l :=
  srt_eq ((srt_perm l).map _ |>.nodup_iff.2 hl) (srt_perm l)
theorem GA.perm {l m : List api_Pair} (h : GA l) (p : List.Perm l m) : GA m :=
  ⟨fun a ha => h.g a (p.mem_iff.2 ha), (p.map _).nodup_iff.1 h.u⟩
/-! ### attributes in another order -/
theorem chkE_attrs {p : api_Point} {l m : List api_Pair} (h : GA l) (q : List.Perm l m) : chkE { p with Attrs := l } = chkE { p with Attrs := m } := by
  have e : labelE p.Name l = labelE p.Name m := by rw [labelE_ga h, labelE_ga (h.perm q), q.length_eq]
  unfold chkE
  dsimp only
  rw [e]
end Go.Lg
namespace Go.Lg
attribute [local irreducible] w64 toU64 toU8 shlU shrU shlB shrB
/-! ### a variable number's bytes -/
def varL (v : Nat) : List UInt8 := if v < 128 then [UInt8.ofNat v] else UInt8.ofNat (128 + v % 128) :: varL (v / 128)
termination_by v
decreasing_by omega
theorem varL_lt {v : Nat} (h : v < 128) : varL v = [UInt8.ofNat v] := by rw [varL, if_pos h]
theorem varL_ge {v : Nat} (h : ¬ v < 128) : varL v = UInt8.ofNat (128 + v % 128) :: varL (v / 128) := by rw [varL, if_neg h]
theorem varL_pos (v : Nat) : 0 < (varL v).length := by
  by_cases h : v < 128
  · rw [varL_lt h]; simp
  · rw [varL_ge h]; simp
theorem varL_len : ∀ (k v : Nat), v < 128 ^ (k + 1) → (varL v).length ≤ k + 1
  | 0, v, h => by rw [varL_lt (by omega)]; simp
  | k + 1, v, h => by
    by_cases h0 : v < 128
    · rw [varL_lt h0]; simp
    · rw [varL_ge h0]
      have := varL_len k (v / 128) (by rw [Nat.pow_succ] at h; omega)
      simp only [List.length_cons]; omega
theorem p128_10 : (128 : Nat) ^ (9 + 1) = 1180591620717411303424 := by decide
theorem varL_len10 {v : Nat} (h : v < 18446744073709551616) : (varL v).length ≤ 10 := varL_len 9 v (by rw [p128_10]; omega)
theorem or128 (x : UInt8) : x ||| 128 = UInt8.ofNat (128 + x.toNat % 128) := by
  apply UInt8.toNat_inj.1
  have h : ∀ n, n < 256 → n ||| 128 = 128 + n % 128 := by decide +kernel
  rw [UInt8.toNat_or, show (128 : UInt8).toNat = 128 from rfl, h _ (u8_lt' x), UInt8.toNat_ofNat']; omega
theorem u8_of {v : UInt64} (h : v.toNat < 128) : v.toUInt8 = UInt8.ofNat v.toNat := by
  apply UInt8.toNat_inj.1
  rw [UInt64.toNat_toUInt8, UInt8.toNat_ofNat']
theorem n127 : (127 : UInt64).toNat = 127 := rfl
theorem WVar_lp : ∀ (n : Nat) (v : UInt64) (out : List UInt8), v.toNat ≤ n → out.length + (varL v.toNat).length ≤ 17179869184 →
    ∃ v' out', loop wire_Var_lp1 (v, out) = some (.go (v', out')) ∧ v'.toNat < 128 ∧ out' ++ [UInt8.ofNat v'.toNat] = out ++ varL v.toNat := by
  intro n
  induction n using Nat.strongRecOn with
  | _ n ih =>
    intro v out hn hl
    by_cases h : v.toNat < 128
    · refine ⟨v, out, loop_brk ?_, h, by rw [varL_lt h]⟩
      unfold wire_Var_lp1
      dsimp only
      rw [bifFd (by rw [UInt64.lt_iff_toNat_lt, n127]; omega)]
    · have hs : (shrU v ((7 : UInt64).toNat)).toNat = v.toNat / 128 := shrU_nat v (n := 7) (by omega)
      have hv := varL_ge h
      have hl2 : (varL v.toNat).length = (varL (v.toNat / 128)).length + 1 := by rw [hv]; simp
      have hx : v.toUInt8 ||| 128 = UInt8.ofNat (128 + v.toNat % 128) := by
        rw [or128, UInt64.toNat_toUInt8, Nat.mod_mod_of_dvd _ (by decide : 128 ∣ 2 ^ 8)]
      obtain ⟨v', out', h1, h2, h3⟩ := ih (v.toNat / 128) (by omega) (shrU v ((7 : UInt64).toNat)) (out ++ [UInt8.ofNat (128 + v.toNat % 128)]) (by omega) (by rw [hs]; simp only [List.length_append, List.length_singleton]; omega)
      refine ⟨v', out', ?_, h2, ?_⟩
      · rw [← h1]
        refine loop_next ?_
        unfold wire_Var_lp1
        dsimp only
        rw [bifTd (by rw [UInt64.lt_iff_toNat_lt, n127]; omega), hx, app_ok (by have := varL_pos (v.toNat / 128); simp only [List.length_singleton]; omega), bind_some, lett_eq]
      · rw [h3, hs, hv]; simp
theorem WVar_eq (v : UInt64) : wire_Var v = some (varL v.toNat) := by
  have hl := varL_len10 (UInt64.toNat_lt v)
  obtain ⟨v', out', h1, h2, h3⟩ := WVar_lp v.toNat v [] (Nat.le_refl _) (by simp only [List.length_nil]; omega)
  unfold wire_Var
  have hl2 := congrArg List.length h3
  simp only [List.length_append, List.length_singleton, List.length_nil] at hl2
  rw [h1, flow_go]
  dsimp only
  rw [bind_some]
  dsimp only
  rw [u8_of h2, app_ok (by simp only [List.length_singleton]; omega), bind_some, h3]; rfl
theorem RVar_N : ∀ (k : Nat) (v : UInt64) (x : List UInt8), ref30_VarN k v = some x → x = varL v.toNat
  | 0, v, x, h => by cases h
  | k + 1, v, x, h => by
    have h : ref30_VarB (ref30_VarN k) v = some x := h
    unfold ref30_VarB at h
    by_cases hv : v.toNat < 128
    · rw [bifTd (by rw [UInt64.lt_iff_toNat_lt]; exact hv)] at h
      cases h
      rw [varL_lt hv, u8_of hv]
    · rw [bifFd (by rw [UInt64.lt_iff_toNat_lt]; exact hv)] at h
      cases hr : ref30_VarN k (v / 128) with
      | none => rw [hr] at h; cases h
      | some r =>
        rw [hr, bind_some] at h
        have e := RVar_N k _ _ hr
        have hd : (v / 128).toNat = v.toNat / 128 := by rw [UInt64.toNat_div]; rfl
        rw [hd] at e
        have hm : ((128 : UInt64) + v % 128).toUInt8 = UInt8.ofNat (128 + v.toNat % 128) := by
          apply UInt8.toNat_inj.1
          rw [UInt64.toNat_toUInt8, UInt8.toNat_ofNat', UInt64.toNat_add, UInt64.toNat_mod, show (128 : UInt64).toNat = 128 from rfl]; omega
        have hl := varL_len10 (v := v.toNat / 128) (by have := UInt64.toNat_lt v; omega)
        rw [hm, app_ok (by rw [e]; simp only [List.length_singleton]; omega), bind_some] at h
        cases h
        rw [varL_ge hv, e]; rfl
theorem RVar_some : ∀ (k : Nat) (v : UInt64), v.toNat < 128 ^ (k + 1) → ref30_VarN (k + 1) v = some (varL v.toNat)
  | 0, v, h => by
    show ref30_VarB (ref30_VarN 0) v = _
    unfold ref30_VarB
    rw [bifTd (by rw [UInt64.lt_iff_toNat_lt]; exact (by omega : v.toNat < 128)), u8_of (by omega), varL_lt (by omega)]
  | k + 1, v, h => by
    show ref30_VarB (ref30_VarN (k + 1)) v = _
    unfold ref30_VarB
    by_cases hv : v.toNat < 128
    · rw [bifTd (by rw [UInt64.lt_iff_toNat_lt]; exact hv), u8_of hv, varL_lt hv]
    · have hd : (v / 128).toNat = v.toNat / 128 := by rw [UInt64.toNat_div]; rfl
      have hm : ((128 : UInt64) + v % 128).toUInt8 = UInt8.ofNat (128 + v.toNat % 128) := by
        apply UInt8.toNat_inj.1
        rw [UInt64.toNat_toUInt8, UInt8.toNat_ofNat', UInt64.toNat_add, UInt64.toNat_mod, show (128 : UInt64).toNat = 128 from rfl]; omega
      have hl := varL_len10 (v := v.toNat / 128) (by have := UInt64.toNat_lt v; omega)
      rw [bifFd (by rw [UInt64.lt_iff_toNat_lt]; exact hv), RVar_some k (v / 128) (by rw [hd]; rw [Nat.pow_succ] at h; omega), bind_some, hd, hm, app_ok (by simp only [List.length_singleton]; omega), bind_some, varL_ge hv]; rfl
theorem RVar_eq (v : UInt64) : ref30_Var v = some (varL v.toNat) :=
  fuel_of (fun k x h => RVar_N k v x h) (RVar_some 9 v (by have := UInt64.toNat_lt v; rw [p128_10]; omega))
/-! ### the number that stands at the beginning of bytes -/
def leV : List UInt8 → Nat
  | [] => 0
  | x :: l => x.toNat % 128 + 128 * leV l
/-- how many of the first bytes go on -/
def cnt : List UInt8 → Nat
  | [] => 0
  | x :: l => if 128 ≤ x.toNat then 1 + cnt l else 0
theorem cnt_le : ∀ l : List UInt8, cnt l ≤ l.length
  | [] => by simp [cnt]
  | x :: l => by have := cnt_le l; rw [cnt]; split <;> simp only [List.length_cons] <;> omega
theorem cnt_lt : ∀ (l : List UInt8) (j : Nat) (h : j < l.length), j < cnt l → 128 ≤ (l[j]).toNat
  | [], j, h, _ => by simp at h
  | x :: l, j, h, hc => by
    rw [cnt] at hc
    split at hc
    · cases j with
      | zero => assumption
      | succ j => exact cnt_lt l j (by simpa using h) (by omega)
    · omega
theorem cnt_at : ∀ (l : List UInt8) (h : cnt l < l.length), (l[cnt l]).toNat < 128
  | [], h => by simp at h
  | x :: l, h => by
    by_cases hx : 128 ≤ x.toNat
    · have e : cnt (x :: l) = cnt l + 1 := by rw [cnt, if_pos hx]; omega
      simp only [e, List.getElem_cons_succ]
      exact cnt_at l (by rw [e] at h; simpa using h)
    · have e : cnt (x :: l) = 0 := by rw [cnt, if_neg hx]
      simp only [e, List.getElem_cons_zero]; omega
theorem leV_snoc : ∀ (l : List UInt8) (x : UInt8), leV (l ++ [x]) = leV l + 128 ^ l.length * (x.toNat % 128)
  | [], x => by simp [leV]
  | y :: l, x => by
    rw [List.cons_append, leV, leV, leV_snoc l x, List.length_cons, Nat.pow_succ, Nat.mul_add, Nat.mul_comm (128 ^ l.length) 128, Nat.mul_assoc]; omega
theorem leV_lt : ∀ l : List UInt8, leV l < 128 ^ l.length
  | [] => by simp [leV]
  | x :: l => by have := leV_lt l; rw [leV, List.length_cons, Nat.pow_succ]; omega
def gv (l : List UInt8) : UInt64 × Int × Int :=
  if 10 ≤ cnt l then (0, 0, 3)
  else if cnt l = l.length then (0, 0, 2)
  else if (cnt l = 9 ∧ 1 < (l.getD (cnt l) 0).toNat) ∨ (0 < cnt l ∧ l.getD (cnt l) 0 = 0) then (0, 0, 3)
  else (UInt64.ofNat (leV (l.take (cnt l + 1))), ((cnt l + 1 : Nat) : Int), 0)
end Go.Lg
namespace Go.Lg
attribute [local irreducible] w64 toU64 toU8 shlU shrU shlB shrB
theorem take_snoc8 {l : List UInt8} {i : Nat} (h : i < l.length) : l.take (i + 1) = l.take i ++ [l[i]] := by
  rw [List.take_add_one, List.getElem?_eq_getElem h]; rfl
theorem p7 (i : Nat) : 128 ^ i = 2 ^ (7 * i) := by rw [Nat.pow_mul]
theorem p7_le {i : Nat} (h : i ≤ 8) : 2 ^ (7 * i) ≤ 72057594037927936 := by
  have : 2 ^ (7 * i) ≤ 2 ^ 56 := Nat.pow_le_pow_right (by omega) (by omega)
  simpa using this
theorem and127 (x : UInt8) : ((x &&& 127).toUInt64).toNat = x.toNat % 128 := by
  have h : ∀ n, n < 256 → n &&& 127 = n % 128 := by decide +kernel
  rw [UInt8.toNat_toUInt64, UInt8.toNat_and, show (127 : UInt8).toNat = 127 from rfl, h _ (u8_lt' x)]
theorem gv_step {t : List UInt8} {i : Nat} (h : i < t.length) (hi : i ≤ 9) (h9 : i = 9 → (t[i]).toNat ≤ 1) :
    UInt64.ofNat (leV (t.take i)) ||| shlU ((t[i] &&& 127).toUInt64) ((toU64 (w64 (7 * (i : Int)))).toNat) = UInt64.ofNat (leV (t.take (i + 1))) := by
  have e1 : (toU64 (w64 (7 * (i : Int)))).toNat = 7 * i := by
    rw [show (7 : Int) * (i : Int) = ((7 * i : Nat) : Int) by omega, w64_nat (by omega), toU64_nat (by omega)]
  have hb := leV_lt (t.take i)
  rw [List.length_take, Nat.min_eq_left (by omega), p7] at hb
  have hm : t[i].toNat % 128 < 128 := Nat.mod_lt _ (by omega)
  have hlt : ((t[i] &&& 127).toUInt64).toNat * 2 ^ (7 * i) < 2 ^ 64 := by
    rw [and127]
    by_cases e : i = 9
    · have h1 := h9 e
      subst e
      have : (2 : Nat) ^ (7 * 9) = 9223372036854775808 := by decide
      rw [this]
      have : t[9].toNat % 128 ≤ 1 := by omega
      omega
    · have := p7_le (i := i) (by omega)
      have h2 : t[i].toNat % 128 * 2 ^ (7 * i) ≤ 127 * 72057594037927936 := Nat.mul_le_mul (by omega) this
      omega
  have hs := shlU_nat ((t[i] &&& 127).toUInt64) (n := 7 * i) (by omega) hlt
  have hsn : leV (t.take (i + 1)) = leV (t.take i) + 2 ^ (7 * i) * (t[i].toNat % 128) := by
    rw [take_snoc8 h, leV_snoc, List.length_take, Nat.min_eq_left (by omega), p7]
  rw [and127] at hs hlt
  have hlo : leV (t.take i) < 18446744073709551616 := by
    have : 2 ^ (7 * i) ≤ 2 ^ 63 := Nat.pow_le_pow_right (by omega) (by omega)
    have e : (2 : Nat) ^ 63 = 9223372036854775808 := by decide
    omega
  apply UInt64.toNat_inj.1
  rw [UInt64.toNat_or, e1, hs, UInt64.toNat_ofNat', Nat.mod_eq_of_lt hlo, Nat.or_comm, or_add hb, UInt64.toNat_ofNat', hsn, Nat.mul_comm (2 ^ (7 * i)) (t[i].toNat % 128)]
  have hs2 : t[i].toNat % 128 * 2 ^ (7 * i) + leV (t.take i) < 2 ^ 64 := by
    have : t[i].toNat % 128 * 2 ^ (7 * i) + 2 ^ (7 * i) ≤ 2 ^ 64 := by
      rw [← Nat.succ_mul]
      by_cases e : i = 9
      · have h1 := h9 e
        subst e
        have : (2 : Nat) ^ (7 * 9) = 9223372036854775808 := by decide
        rw [this]
        have : t[9].toNat % 128 ≤ 1 := by omega
        omega
      · have := p7_le (i := i) (by omega)
        have h2 : (t[i].toNat % 128).succ * 2 ^ (7 * i) ≤ 128 * 72057594037927936 := Nat.mul_le_mul (by omega) this
        omega
    omega
  rw [Nat.add_comm (leV (t.take i)), Nat.mod_eq_of_lt hs2]
theorem getD8 {l : List UInt8} {i : Nat} (h : i < l.length) : l.getD i 0 = l[i] := by
  rw [List.getD_eq_getElem?_getD, List.getElem?_eq_getElem h]; rfl
theorem WGet_lp (t : List UInt8) (hl : t.length ≤ 100000000) : loop (wire_GetVar_lp1 t) (0, 0) = some (if cnt t < 10 ∧ cnt t = t.length then .go () else .out (gv t)) := by
  have key : ∀ (m i : Nat), i + m = 9 → i ≤ cnt t → loop (wire_GetVar_lp1 t) (UInt64.ofNat (leV (t.take i)), (i : Int)) = some (if cnt t < 10 ∧ cnt t = t.length then .go () else .out (gv t)) := by
    intro m
    induction m with
    | zero =>
      intro i hi hc
      obtain rfl : i = 9 := by omega
      have hcl := cnt_le t
      by_cases h : 9 < t.length
      · rw [if_neg (by omega)]
        refine loop_out ?_
        unfold wire_GetVar_lp1
        dsimp only
        rw [bifTd (by omega), idx_nat h, bind_some]
        by_cases h1 : 1 < t[9].toNat
        · rw [bifT (by rw [Bool.and_eq_true]; exact ⟨decide_eq_true (by omega), decide_eq_true (by rw [UInt8.lt_iff_toNat_lt]; exact h1)⟩)]
          unfold gv
          by_cases hc10 : 10 ≤ cnt t
          · rw [if_pos hc10]; rfl
          · have e9 : cnt t = 9 := by omega
            rw [if_neg hc10, if_neg (by omega), if_pos (.inl ⟨e9, by rw [e9, getD8 h]; exact h1⟩)]; rfl
        · have e9 : cnt t = 9 := by
            have := cnt_lt t 9 h
            omega
          rw [bifF (by rw [Bool.and_eq_false_iff]; exact .inr (decide_eq_false (by rw [UInt8.lt_iff_toNat_lt]; exact h1))), gv_step h (by omega) (fun _ => by omega), lett_eq, bifTd (by rw [UInt8.lt_iff_toNat_lt]; exact (by omega : t[9].toNat < 128))]
          unfold gv
          rw [if_neg (by omega), if_neg (by omega)]
          by_cases h0 : t[9] = 0
          · rw [bifT (by rw [Bool.and_eq_true]; exact ⟨decide_eq_true h0, decide_eq_true (by omega)⟩), if_pos (.inr ⟨by omega, by rw [e9, getD8 h]; exact h0⟩)]; rfl
          · rw [bifF (by rw [Bool.and_eq_false_iff]; exact .inl (decide_eq_false h0)), if_neg (by rw [e9, getD8 h]; exact fun e => e.elim (fun e => h1 e.2) (fun e => h0 e.2)), lett_eq, w64_succ (by omega), e9]; rfl
      · rw [if_pos (by omega)]
        refine loop_brk ?_
        unfold wire_GetVar_lp1
        dsimp only
        rw [bifFd (by omega)]
    | succ m ih =>
      intro i hi hc
      have hcl := cnt_le t
      by_cases h : i < t.length
      · by_cases hlt : i < cnt t
        · have hb := cnt_lt t i h hlt
          rw [← ih (i + 1) (by omega) (by omega)]
          refine loop_next ?_
          unfold wire_GetVar_lp1
          dsimp only
          rw [bifTd (by omega), idx_nat h, bind_some, bifF (by rw [Bool.and_eq_false_iff]; exact .inl (decide_eq_false (by omega))), gv_step h (by omega) (fun _ => by omega), lett_eq, bifFd (by rw [UInt8.lt_iff_toNat_lt]; exact (by omega : ¬ t[i].toNat < 128)), w64_succ (by omega)]
        · have ec : cnt t = i := by omega
          have hb := cnt_at t (by omega)
          simp only [ec] at hb
          rw [if_neg (by omega)]
          refine loop_out ?_
          unfold wire_GetVar_lp1
          dsimp only
          rw [bifTd (by omega), idx_nat h, bind_some, bifF (by rw [Bool.and_eq_false_iff]; exact .inl (decide_eq_false (by omega))), gv_step h (by omega) (fun _ => by omega), lett_eq, bifTd (by rw [UInt8.lt_iff_toNat_lt]; exact hb)]
          unfold gv
          rw [if_neg (by omega), if_neg (by omega)]
          by_cases h0 : t[i] = 0 ∧ 0 < i
          · rw [bifT (by rw [Bool.and_eq_true]; exact ⟨decide_eq_true h0.1, decide_eq_true (by omega)⟩), if_pos (.inr ⟨by omega, by rw [ec, getD8 h]; exact h0.1⟩)]; rfl
          · rw [bifF (by rw [Bool.and_eq_false_iff]; exact (Decidable.em (t[i] = 0)).elim (fun q => .inr (decide_eq_false (fun e => h0 ⟨q, by omega⟩))) (fun q => .inl (decide_eq_false q))), if_neg (by rw [ec, getD8 h]; exact fun e => e.elim (fun e => absurd e.1 (by omega)) (fun e => h0 ⟨e.2, e.1⟩)), lett_eq, w64_succ (by omega), ec]; rfl
      · rw [if_pos (by omega)]
        refine loop_brk ?_
        unfold wire_GetVar_lp1
        dsimp only
        rw [bifFd (by omega)]
  have k0 := key 9 0 (by omega) (by omega)
  exact k0
theorem WGet_eq {b : List UInt8} {at_ : Nat} (hl : b.length ≤ 100000000) (h : at_ ≤ b.length) : wire_GetVar b (at_ : Int) = some (gv (b.drop at_)) := by
  unfold wire_GetVar
  rw [bifF (by rw [Bool.or_eq_false_iff]; exact ⟨decide_eq_false (by omega), decide_eq_false (by omega)⟩), slc_nat h (Nat.le_refl _), bind_some, List.take_length, WGet_lp _ (by simp; omega)]
  by_cases hs : cnt (b.drop at_) < 10 ∧ cnt (b.drop at_) = (b.drop at_).length
  · rw [if_pos hs]
    unfold gv
    rw [if_neg (by omega), if_pos hs.2]; rfl
  · rw [if_neg hs]; rfl
theorem RGet_lp1 (b : List UInt8) (at_ : Nat) (hl : b.length ≤ 100000000) (h : at_ ≤ b.length) : loop (ref30_GetVar_lp1 b (at_ : Int)) 0 = some (if 10 ≤ cnt (b.drop at_) then .out (.out ⟨0, 0, 3⟩) else .go ((cnt (b.drop at_) : Nat) : Int)) := by
  have hcl := cnt_le (b.drop at_)
  have hdl : (b.drop at_).length = b.length - at_ := List.length_drop
  have hlt := cnt_lt (b.drop at_)
  have hat := cnt_at (b.drop at_)
  generalize hc : cnt (b.drop at_) = c at *
  have key : ∀ (m i : Nat), i + m = 9 → i ≤ c → loop (ref30_GetVar_lp1 b (at_ : Int)) (i : Int) = some (if 10 ≤ c then .out (.out ⟨0, 0, 3⟩) else .go ((c : Nat) : Int)) := by
    have cont : ∀ i, i ≤ 9 → i < c → ref30_GetVar_lp1 b (at_ : Int) (i : Int) = (bif decide ((i : Int) = 9) then some (.out (.out ⟨0, 0, 3⟩)) else some (.next ((i + 1 : Nat) : Int))) := by
      intro i hi h9
      have := hlt i (by omega) h9
      rw [List.getElem_drop] at this
      unfold ref30_GetVar_lp1
      rw [w64_addN (by omega), bifTd (by omega), idx_nat (by omega), bind_some, bind_some, bifTd (by rw [UInt8.le_iff_toNat_le]; exact this), lett_eq, w64_succ (by omega)]; rfl
    have stop : ∀ i, i ≤ 9 → i = c → ref30_GetVar_lp1 b (at_ : Int) (i : Int) = some (.brk ((c : Nat) : Int)) := by
      intro i hi h9
      unfold ref30_GetVar_lp1
      rw [w64_addN (by omega)]
      by_cases hL : at_ + i < b.length
      · have := hat (by omega)
        rw [List.getElem_drop] at this
        simp only [← h9] at this
        rw [bifTd (by omega), idx_nat hL, bind_some, bind_some, bifFd (by rw [UInt8.le_iff_toNat_le]; exact (by omega : ¬ 128 ≤ b[at_ + i].toNat)), h9]
      · rw [bifFd (by omega), bind_some, h9]; rfl
    intro m
    induction m with
    | zero =>
      intro i hi hc'
      obtain rfl : i = 9 := by omega
      by_cases h9 : 9 < c
      · rw [if_pos (by omega)]
        refine loop_out ?_
        rw [cont 9 (by omega) h9, bifTd (by omega)]
      · rw [if_neg (by omega)]
        exact loop_brk (stop 9 (by omega) (by omega))
    | succ m ih =>
      intro i hi hc'
      by_cases h9 : i < c
      · rw [← ih (i + 1) (by omega) (by omega)]
        refine loop_next ?_
        rw [cont i (by omega) h9, bifFd (by omega)]
      · rw [if_neg (by omega)]
        exact loop_brk (stop i (by omega) (by omega))
  exact key 9 0 (by omega) (by omega)
theorem RGet_lp2 (b : List UInt8) (at_ n : Nat) (hl : b.length ≤ 100000000) (h : at_ + n < b.length) : loop (ref30_GetVar_lp2 b (at_ : Int)) (0, (n : Int)) = some (.go (UInt64.ofNat (leV ((b.drop at_).take (n + 1))))) := by
  have hdl : ((b.drop at_).take (n + 1)).length = n + 1 := by rw [List.length_take, List.length_drop]; omega
  have key : ∀ j : Nat, j ≤ n + 1 → loop (ref30_GetVar_lp2 b (at_ : Int)) (UInt64.ofNat (leV (((b.drop at_).take (n + 1)).drop j)), (j : Int) - 1) = some (.go (UInt64.ofNat (leV ((b.drop at_).take (n + 1))))) := by
    intro j
    induction j with
    | zero =>
      intro _
      refine loop_brk ?_
      unfold ref30_GetVar_lp2
      dsimp only
      rw [bifFd (by omega), List.drop_zero]
    | succ j ih =>
      intro hj
      rw [← ih (by omega)]
      refine loop_next ?_
      have hd : ((b.drop at_).take (n + 1)).drop j = b[at_ + j]'(by omega) :: ((b.drop at_).take (n + 1)).drop (j + 1) := by
        rw [List.drop_eq_getElem_cons (by omega), List.getElem_take, List.getElem_drop]
      have e1 : ((j + 1 : Nat) : Int) - 1 = (j : Int) := by omega
      have e2 : w64 ((j : Int) - 1) = (j : Int) - 1 := w64_id (by omega) (by omega)
      have e3 : UInt64.ofNat (leV (((b.drop at_).take (n + 1)).drop j)) = (128 : UInt64) * UInt64.ofNat (leV (((b.drop at_).take (n + 1)).drop (j + 1))) + ((b[at_ + j]'(by omega)) % 128).toUInt64 := by
        rw [hd, leV]
        apply UInt64.toNat_inj.1
        rw [UInt64.toNat_add, UInt64.toNat_mul, UInt64.toNat_ofNat', UInt64.toNat_ofNat', UInt8.toNat_toUInt64, UInt8.toNat_mod, show (128 : UInt64).toNat = 128 from rfl, show (128 : UInt8).toNat = 128 from rfl]; omega
      unfold ref30_GetVar_lp2
      dsimp only
      rw [e1, bifTd (by omega), w64_addN (by omega), idx_nat (by omega), bind_some, lett_eq, lett_eq, e2, e3]
  have k0 := key (n + 1) (Nat.le_refl _)
  rw [List.drop_of_length_le (by omega), show ((n + 1 : Nat) : Int) - 1 = (n : Int) by omega] at k0
  exact k0
theorem RGet_eq {b : List UInt8} {at_ : Nat} (hl : b.length ≤ 100000000) (h : at_ ≤ b.length) : ref30_GetVar b (at_ : Int) = some ⟨(gv (b.drop at_)).1, (gv (b.drop at_)).2.1, (gv (b.drop at_)).2.2⟩ := by
  have hcl := cnt_le (b.drop at_)
  have hdl : (b.drop at_).length = b.length - at_ := List.length_drop
  unfold ref30_GetVar
  rw [bifF (by rw [Bool.or_eq_false_iff]; exact ⟨decide_eq_false (by omega), decide_eq_false (by omega)⟩), RGet_lp1 b at_ hl h]
  by_cases h10 : 10 ≤ cnt (b.drop at_)
  · have e : gv (b.drop at_) = (0, 0, 3) := by unfold gv; rw [if_pos h10]
    rw [if_pos h10, e]; rfl
  rw [if_neg h10, flow_go, flow_go, w64_addN (by omega)]
  by_cases hs : cnt (b.drop at_) = (b.drop at_).length
  · have e : gv (b.drop at_) = (0, 0, 2) := by unfold gv; rw [if_neg h10, if_pos hs]
    rw [bifTd (by omega), e]
  have hlt : at_ + cnt (b.drop at_) < b.length := by omega
  have hgd : (b.drop at_).getD (cnt (b.drop at_)) 0 = b[at_ + cnt (b.drop at_)] := by rw [getD8 (by omega), List.getElem_drop]
  have h2 := RGet_lp2 b at_ (cnt (b.drop at_)) hl hlt
  have eg : gv (b.drop at_) = if (cnt (b.drop at_) = 9 ∧ 1 < (b[at_ + cnt (b.drop at_)]).toNat) ∨ (0 < cnt (b.drop at_) ∧ b[at_ + cnt (b.drop at_)] = 0) then (0, 0, 3) else (UInt64.ofNat (leV ((b.drop at_).take (cnt (b.drop at_) + 1))), ((cnt (b.drop at_) + 1 : Nat) : Int), 0) := by
    unfold gv; rw [if_neg h10, if_neg hs, hgd]
  rw [bifFd (by omega), eg, idx_nat hlt]
  generalize b[at_ + cnt (b.drop at_)] = x at *
  generalize cnt (b.drop at_) = c at *
  have c1 : (bif decide ((c : Int) = 9) then (some x).bind fun e69 => some (decide (1 < e69)) else some false) = some (decide (c = 9 ∧ 1 < x.toNat)) := by
    by_cases e : c = 9
    · rw [bifTd (by omega), bind_some]
      congr 1
      rw [decide_eq_decide, UInt8.lt_iff_toNat_lt, show (1 : UInt8).toNat = 1 from rfl]; omega
    · rw [bifFd (by omega), decide_eq_false (by omega)]
  have c2 : (bif decide (0 < (c : Int)) then (some x).bind fun e89 => some (decide (e89 = 0)) else some false) = some (decide (0 < c ∧ x = 0)) := by
    by_cases e : 0 < c
    · rw [bifTd (by omega), bind_some]
      congr 1
      rw [decide_eq_decide]
      exact ⟨fun h => ⟨e, h⟩, fun h => h.2⟩
    · rw [bifFd (by omega), decide_eq_false (by omega)]
  rw [c1, bind_some, c2, bind_some]
  by_cases q1 : c = 9 ∧ 1 < x.toNat
  · rw [bifTd q1, bind_some, bifT (by rfl), if_pos (.inl q1)]
  · rw [bifFd q1, bind_some]
    by_cases q2 : 0 < c ∧ x = 0
    · rw [bifTd q2, if_pos (.inr q2)]
    · rw [bifFd q2, if_neg (fun e => e.elim q1 q2), h2, flow_go, bind_some, w64_succ (by omega)]
end Go.Lg
namespace Go.Lg
attribute [local irreducible] w64 toU64 toU8 shlU shrU shlB shrB
/-! ### a number has one form -/
theorem leV_one (x : UInt8) : leV [x] = x.toNat % 128 := by simp [leV]
theorem canon : ∀ (l : List UInt8) (h : cnt l < l.length), (0 < cnt l → l[cnt l] ≠ 0) → varL (leV (l.take (cnt l + 1))) = l.take (cnt l + 1)
  | [], h, _ => by simp at h
  | x :: l, h, hz => by
    have hx8 := u8_lt' x
    by_cases hx : 128 ≤ x.toNat
    · have e : cnt (x :: l) = cnt l + 1 := by rw [cnt, if_pos hx]; omega
      simp only [e] at h hz ⊢
      have hl : cnt l < l.length := by simpa using h
      have hz' : l[cnt l] ≠ 0 := by simpa using hz (by omega)
      have ih := canon l hl (fun _ => hz')
      have hV : leV (l.take (cnt l + 1)) ≠ 0 := by
        intro e0
        rw [e0, varL_lt (by omega)] at ih
        have hlen := congrArg List.length ih
        rw [List.length_take] at hlen
        simp only [List.length_singleton] at hlen
        have c0 : cnt l = 0 := by omega
        rw [take_snoc8 hl] at ih
        simp only [c0, List.take_zero, List.nil_append] at ih
        apply hz'
        simp only [c0]
        exact (List.cons.inj ih).1.symm
      rw [List.take_succ_cons, leV, varL_ge (by omega)]
      rw [show (x.toNat % 128 + 128 * leV (l.take (cnt l + 1))) / 128 = leV (l.take (cnt l + 1)) by omega, ih]
      congr 1
      apply UInt8.toNat_inj.1
      rw [UInt8.toNat_ofNat']; omega
    · have e : cnt (x :: l) = 0 := by rw [cnt, if_neg hx]
      simp only [e]
      rw [List.take_succ_cons, List.take_zero, leV_one, varL_lt (by omega)]
      congr 1
      apply UInt8.toNat_inj.1
      rw [UInt8.toNat_ofNat']; omega
theorem gv_ok {l : List UInt8} (h : (gv l).2.2 = 0) : ∃ n : Nat, (gv l).2.1 = n ∧ 1 ≤ n ∧ n ≤ l.length ∧ l.take n = varL (gv l).1.toNat := by
  have hcl := cnt_le l
  unfold gv at h ⊢
  by_cases h1 : 10 ≤ cnt l
  · rw [if_pos h1] at h; exact absurd h (by decide)
  rw [if_neg h1] at h ⊢
  by_cases h2 : cnt l = l.length
  · rw [if_pos h2] at h; exact absurd h (by decide)
  rw [if_neg h2] at h ⊢
  by_cases h3 : (cnt l = 9 ∧ 1 < (l.getD (cnt l) 0).toNat) ∨ (0 < cnt l ∧ l.getD (cnt l) 0 = 0)
  · rw [if_pos h3] at h; exact absurd h (by decide)
  rw [if_neg h3]
  have hlt : cnt l < l.length := by omega
  rw [getD8 hlt] at h3
  refine ⟨cnt l + 1, rfl, by omega, by omega, ?_⟩
  have hc := canon l hlt (fun h0 e => h3 (.inr ⟨h0, e⟩))
  have hb : leV (l.take (cnt l + 1)) < 18446744073709551616 := by
    have h8 := leV_lt (l.take (cnt l + 1))
    have hlen : (l.take (cnt l + 1)).length = cnt l + 1 := by rw [List.length_take]; omega
    by_cases e9 : cnt l = 9
    · have h7 := leV_lt (l.take (cnt l))
      have hl1 : ¬ 1 < (l[cnt l]).toNat := fun e => h3 (.inl ⟨e9, e⟩)
      rw [List.length_take, Nat.min_eq_left hcl] at h7
      rw [take_snoc8 hlt, leV_snoc, List.length_take, Nat.min_eq_left hcl]
      generalize l[cnt l] = y at hl1 ⊢
      rw [e9] at h7 ⊢
      have p9 : (128 : Nat) ^ 9 = 9223372036854775808 := by decide
      rw [p9] at h7 ⊢
      omega
    · rw [hlen] at h8
      have : (128 : Nat) ^ (cnt l + 1) ≤ 128 ^ 9 := Nat.pow_le_pow_right (by omega) (by omega)
      have p9 : (128 : Nat) ^ 9 = 9223372036854775808 := by decide
      omega
  dsimp only
  rw [UInt64.toNat_ofNat', Nat.mod_eq_of_lt hb, hc]
theorem varL_facts (r : List UInt8) : ∀ (n v : Nat), v ≤ n → cnt (varL v ++ r) + 1 = (varL v).length ∧ leV (varL v) = v ∧ (1 < (varL v).length → (varL v).getD ((varL v).length - 1) 0 ≠ 0) := by
  intro n
  induction n using Nat.strongRecOn with
  | _ n ih =>
    intro v hv
    by_cases h : v < 128
    · rw [varL_lt h]
      have e : (UInt8.ofNat v).toNat = v := by rw [UInt8.toNat_ofNat']; omega
      refine ⟨?_, ?_, fun h => by simp at h⟩
      · rw [List.singleton_append, cnt, e, if_neg (by omega)]; rfl
      · rw [leV_one, e]; omega
    · obtain ⟨i1, i2, i3⟩ := ih (v / 128) (by omega) (v / 128) (Nat.le_refl _)
      have hp := varL_pos (v / 128)
      have e : (UInt8.ofNat (128 + v % 128)).toNat = 128 + v % 128 := by rw [UInt8.toNat_ofNat']; omega
      rw [varL_ge h]
      refine ⟨?_, ?_, fun _ => ?_⟩
      · rw [List.cons_append, cnt, e, if_pos (by omega), List.length_cons]; omega
      · rw [leV, e, i2]; omega
      · rw [List.length_cons, Nat.add_sub_cancel]
        obtain ⟨q, hq⟩ : ∃ q, (varL (v / 128)).length = q + 1 := ⟨(varL (v / 128)).length - 1, by omega⟩
        rw [hq, List.getD_cons_succ]
        by_cases h1 : 1 < (varL (v / 128)).length
        · have := i3 h1
          rwa [hq, Nat.add_sub_cancel] at this
        · have q0 : q = 0 := by omega
          have hs : v / 128 < 128 := by
            apply Decidable.byContradiction
            intro hge
            rw [varL_ge hge, List.length_cons] at h1
            have := varL_pos (v / 128 / 128)
            omega
          rw [q0, varL_lt hs]
          intro e0
          have e1 : (UInt8.ofNat (v / 128)).toNat = 0 := by
            have e2 : UInt8.ofNat (v / 128) = 0 := by simpa using e0
            rw [e2]; rfl
          rw [UInt8.toNat_ofNat'] at e1
          omega
theorem gv_var {v : Nat} (hv : v < 18446744073709551616) (r : List UInt8) : gv (varL v ++ r) = (UInt64.ofNat v, ((varL v).length : Int), 0) := by
  obtain ⟨h1, h2, h3⟩ := varL_facts r v v (Nat.le_refl _)
  have h10 := varL_len10 hv
  have hp := varL_pos v
  have hc : cnt (varL v ++ r) = (varL v).length - 1 := by omega
  have hg : (varL v ++ r).getD ((varL v).length - 1) 0 = (varL v).getD ((varL v).length - 1) 0 := by
    rw [List.getD_eq_getElem?_getD, List.getElem?_append_left (by omega), ← List.getD_eq_getElem?_getD]
  unfold gv
  rw [hc, if_neg (by omega), if_neg (by rw [List.length_append]; omega), hg, if_neg]
  · rw [Nat.sub_add_cancel hp, List.take_left, h2]
  · intro e
    rcases e with ⟨e1, e2⟩ | ⟨e1, e2⟩
    · have hlen : (varL v).length = 10 := by omega
      rw [hlen, getD8 (by omega)] at e2
      have hs := take_snoc8 (l := varL v) (i := 9) (by omega)
      rw [List.take_of_length_le (by omega)] at hs
      have := congrArg leV hs
      rw [h2, leV_snoc] at this
      have hat := cnt_at (varL v ++ r) (by rw [hc, List.length_append]; omega)
      simp only [hc, hlen] at hat
      rw [List.getElem_append_left (by omega)] at hat
      have e2' : 1 < ((varL v)[9]'(by omega)).toNat := e2
      have hat' : ((varL v)[9]'(by omega)).toNat < 128 := hat
      clear e2 hat hs
      generalize (varL v)[9]'(by omega) = y at *
      rw [List.length_take, hlen] at this
      have p9 : (128 : Nat) ^ (min 9 10) = 9223372036854775808 := by decide
      rw [p9] at this
      omega
    · exact h3 (by omega) e2
/-! ### eight bytes -/
def le8 : List UInt8 → Nat
  | [] => 0
  | x :: l => x.toNat + 256 * le8 l
theorem le8_snoc : ∀ (l : List UInt8) (x : UInt8), le8 (l ++ [x]) = le8 l + 256 ^ l.length * x.toNat
  | [], x => by simp [le8]
  | y :: l, x => by
    rw [List.cons_append, le8, le8, le8_snoc l x, List.length_cons, Nat.pow_succ, Nat.mul_add, Nat.mul_comm (256 ^ l.length) 256, Nat.mul_assoc]; omega
theorem le8_lt : ∀ l : List UInt8, le8 l < 256 ^ l.length
  | [] => by simp [le8]
  | x :: l => by have := le8_lt l; have := u8_lt' x; rw [le8, List.length_cons, Nat.pow_succ]; omega
def eightL (v : Nat) : List UInt8 := (List.range 8).map fun (i : Nat) => UInt8.ofNat (v / 256 ^ i)
theorem le8_div : ∀ (l : List UInt8) (i : Nat) (h : i < l.length), le8 l / 256 ^ i % 256 = (l[i]).toNat
  | [], i, h => by simp at h
  | x :: l, i, h => by
    have hx := u8_lt' x
    cases i with
    | zero => rw [le8]; simp only [Nat.pow_zero, Nat.div_one, List.getElem_cons_zero]; omega
    | succ i =>
      have := le8_div l i (by simpa using h)
      rw [le8, Nat.pow_succ, Nat.mul_comm (256 ^ i), ← Nat.div_div_eq_div_mul, show (x.toNat + 256 * le8 l) / 256 = le8 l by omega, this]; rfl
theorem eight_le {l : List UInt8} (h : l.length = 8) : eightL (le8 l) = l := by
  apply List.ext_getElem (by simp [eightL, h])
  intro i h1 h2
  have := le8_div l i h2
  apply UInt8.toNat_inj.1
  simp only [eightL, List.getElem_map, List.getElem_range]
  rw [UInt8.toNat_ofNat', this]
end Go.Lg
namespace Go.Lg
attribute [local irreducible] w64 toU64 toU8 shlU shrU shlB shrB
theorem p256' (i : Nat) : 256 ^ i = 2 ^ (8 * i) := by rw [Nat.pow_mul]
theorem eight_get {v i : Nat} (h : i < 8) : (eightL v)[i]'(by simp [eightL]; exact h) = UInt8.ofNat (v / 256 ^ i) := by simp [eightL]
theorem eight_len (v : Nat) : (eightL v).length = 8 := by simp [eightL]
theorem Weight_eq (v : UInt64) : wire_eight v = some (eightL v.toNat) := by
  have key : ∀ (m i : Nat) (z : List UInt8), i + m = 8 → z.length = 8 → z.take i = (eightL v.toNat).take i → loop (wire_eight_lp1 v (List.replicate 8 0)) (z, (i : Int)) = some (.go (eightL v.toNat)) := by
    intro m
    induction m with
    | zero =>
      intro i z hi hz ht
      refine loop_brk ?_
      unfold wire_eight_lp1
      dsimp only
      rw [bifFd (by simp; omega)]
      have e8 := eight_len v.toNat
      rw [List.take_of_length_le (by omega), List.take_of_length_le (by omega)] at ht
      rw [ht]
    | succ m ih =>
      intro i z hi hz ht
      have hlt : i < z.length := by omega
      have e1 : (toU64 (w64 (8 * (i : Int)))).toNat = 8 * i := by
        rw [show (8 : Int) * (i : Int) = ((8 * i : Nat) : Int) by omega, w64_nat (by omega), toU64_nat (by omega)]
      have e2 : (shrU v (8 * i)).toUInt8 = UInt8.ofNat (v.toNat / 256 ^ i) := by
        apply UInt8.toNat_inj.1
        rw [UInt64.toNat_toUInt8, shrU_nat _ (by omega), UInt8.toNat_ofNat', p256']
      rw [← ih (i + 1) (z.set i (UInt8.ofNat (v.toNat / 256 ^ i))) (by omega) (by simpa using hz) (by
        rw [take_snoc8 (by simpa using hlt), take_snoc8 (by rw [eight_len]; omega), List.take_set_of_le (Nat.le_refl i), ht, List.getElem_set_self, eight_get (by omega)])]
      refine loop_next ?_
      unfold wire_eight_lp1
      dsimp only
      rw [bifTd (by simp; omega), idx_nat hlt, bind_some, lett_eq, e1, e2, setI_nat hlt, bind_some, w64_succ (by omega)]
  have hm : mk 8 (0 : UInt8) = some (List.replicate 8 0) := by
    unfold mk LIM
    rw [if_pos (by omega)]; rfl
  unfold wire_eight
  rw [hm, bind_some]
  have k0 : loop (wire_eight_lp1 v (List.replicate 8 0)) (List.replicate 8 0, 0) = _ := key 8 0 (List.replicate 8 0) (by omega) (by simp) (by simp)
  rw [k0, flow_go]
theorem field_step {t : List UInt8} {i : Nat} (h : i < t.length) (hi : i ≤ 7) :
    UInt64.ofNat (le8 (t.take i)) ||| shlU (t[i].toUInt64) ((toU64 (w64 (8 * (i : Int)))).toNat) = UInt64.ofNat (le8 (t.take (i + 1))) := by
  have e1 : (toU64 (w64 (8 * (i : Int)))).toNat = 8 * i := by
    rw [show (8 : Int) * (i : Int) = ((8 * i : Nat) : Int) by omega, w64_nat (by omega), toU64_nat (by omega)]
  have hb := le8_lt (t.take i)
  rw [List.length_take, Nat.min_eq_left (by omega), p256'] at hb
  have hp : 2 ^ (8 * i) ≤ 72057594037927936 := by
    have : 2 ^ (8 * i) ≤ 2 ^ 56 := Nat.pow_le_pow_right (by omega) (by omega)
    simpa using this
  have hx := u8_lt' t[i]
  have hs2 : (t[i]).toNat * 2 ^ (8 * i) + le8 (t.take i) < 2 ^ 64 := by
    have h2 : (t[i].toNat).succ * 2 ^ (8 * i) ≤ 256 * 72057594037927936 := Nat.mul_le_mul (by omega) hp
    rw [Nat.succ_mul] at h2
    omega
  have hs := shlU_nat (t[i].toUInt64) (n := 8 * i) (by omega) (by rw [UInt8.toNat_toUInt64]; omega)
  have hsn : le8 (t.take (i + 1)) = le8 (t.take i) + 2 ^ (8 * i) * (t[i]).toNat := by
    rw [take_snoc8 h, le8_snoc, List.length_take, Nat.min_eq_left (by omega), p256']
  rw [UInt8.toNat_toUInt64] at hs
  apply UInt64.toNat_inj.1
  rw [UInt64.toNat_or, e1, hs, UInt64.toNat_ofNat', Nat.mod_eq_of_lt (by omega : le8 (t.take i) < 2 ^ 64), Nat.or_comm, or_add hb, UInt64.toNat_ofNat', hsn, Nat.mul_comm (2 ^ (8 * i)) (t[i].toNat)]
  rw [Nat.add_comm (le8 (t.take i)), Nat.mod_eq_of_lt hs2]
theorem Wfield_lp {t : List UInt8} (h : t.length = 8) : loop (wire_field_lp1 t) (0, 0) = some (.go (UInt64.ofNat (le8 t))) := by
  have key : ∀ (m i : Nat), i + m = 8 → loop (wire_field_lp1 t) (UInt64.ofNat (le8 (t.take i)), (i : Int)) = some (.go (UInt64.ofNat (le8 t))) := by
    intro m
    induction m with
    | zero =>
      intro i hi
      refine loop_brk ?_
      unfold wire_field_lp1
      dsimp only
      rw [bifFd (by omega), List.take_of_length_le (by omega)]
    | succ m ih =>
      intro i hi
      have hlt : i < t.length := by omega
      rw [← ih (i + 1) (by omega)]
      refine loop_next ?_
      unfold wire_field_lp1
      dsimp only
      rw [bifTd (by omega), idx_nat hlt, bind_some, lett_eq, field_step hlt (by omega), w64_succ (by omega)]
  exact key 8 0 (by omega)
theorem Rfield_lp (b : List UInt8) (k : Nat) (hl : b.length ≤ 100000000) (h : k + 8 ≤ b.length) : loop (ref30_Decode_lp2 b (k : Int)) (0, 7) = some (.go (UInt64.ofNat (le8 ((b.drop k).take 8)))) := by
  have hdl : ((b.drop k).take 8).length = 8 := by rw [List.length_take, List.length_drop]; omega
  have key : ∀ j : Nat, j ≤ 8 → loop (ref30_Decode_lp2 b (k : Int)) (UInt64.ofNat (le8 (((b.drop k).take 8).drop j)), (j : Int) - 1) = some (.go (UInt64.ofNat (le8 ((b.drop k).take 8)))) := by
    intro j
    induction j with
    | zero =>
      intro _
      refine loop_brk ?_
      unfold ref30_Decode_lp2
      dsimp only
      rw [bifFd (by omega), List.drop_zero]
    | succ j ih =>
      intro hj
      rw [← ih (by omega)]
      refine loop_next ?_
      have hd : ((b.drop k).take 8).drop j = b[k + j]'(by omega) :: ((b.drop k).take 8).drop (j + 1) := by
        rw [List.drop_eq_getElem_cons (by omega), List.getElem_take, List.getElem_drop]
      have e1 : ((j + 1 : Nat) : Int) - 1 = (j : Int) := by omega
      have e2 : w64 ((j : Int) - 1) = (j : Int) - 1 := w64_id (by omega) (by omega)
      have e3 : UInt64.ofNat (le8 (((b.drop k).take 8).drop j)) = (256 : UInt64) * UInt64.ofNat (le8 (((b.drop k).take 8).drop (j + 1))) + (b[k + j]'(by omega)).toUInt64 := by
        rw [hd, le8]
        apply UInt64.toNat_inj.1
        rw [UInt64.toNat_add, UInt64.toNat_mul, UInt64.toNat_ofNat', UInt64.toNat_ofNat', UInt8.toNat_toUInt64, show (256 : UInt64).toNat = 256 from rfl]; omega
      unfold ref30_Decode_lp2
      dsimp only
      rw [e1, bifTd (by omega), w64_addN (by omega), idx_nat (by omega), bind_some, lett_eq, lett_eq, e2, e3]
  have k0 := key 8 (Nat.le_refl _)
  rw [List.drop_of_length_le (by omega)] at k0
  exact k0
/-! ### a field -/
def F0 : api_Fld := ⟨0, 0, 0, []⟩
def fieldS (l : List UInt8) : Int × api_Fld × Nat :=
  if (gv l).2.2 ≠ 0 then ((gv l).2.2, F0, 0)
  else if 2 < (gv l).1.toNat % 8 then (14, F0, 0)
  else if (gv l).1.toNat / 8 < 1 ∨ 536870911 < (gv l).1.toNat / 8 then (1, F0, 0)
  else if (gv l).1.toNat % 8 = 1 then
    if l.length - (gv l).2.1.toNat < 8 then (2, F0, 0)
    else (0, ⟨((gv l).1.toNat / 8 : Nat), 1, UInt64.ofNat (le8 ((l.drop (gv l).2.1.toNat).take 8)), []⟩, (gv l).2.1.toNat + 8)
  else if (gv (l.drop (gv l).2.1.toNat)).2.2 ≠ 0 then ((gv (l.drop (gv l).2.1.toNat)).2.2, F0, 0)
  else if (gv l).1.toNat % 8 = 0 then (0, ⟨((gv l).1.toNat / 8 : Nat), 0, (gv (l.drop (gv l).2.1.toNat)).1, []⟩, (gv l).2.1.toNat + (gv (l.drop (gv l).2.1.toNat)).2.1.toNat)
  else if l.length - ((gv l).2.1.toNat + (gv (l.drop (gv l).2.1.toNat)).2.1.toNat) < (gv (l.drop (gv l).2.1.toNat)).1.toNat then (2, F0, 0)
  else (0, ⟨((gv l).1.toNat / 8 : Nat), 2, 0, (l.drop ((gv l).2.1.toNat + (gv (l.drop (gv l).2.1.toNat)).2.1.toNat)).take (gv (l.drop (gv l).2.1.toNat)).1.toNat⟩, (gv l).2.1.toNat + (gv (l.drop (gv l).2.1.toNat)).2.1.toNat + (gv (l.drop (gv l).2.1.toNat)).1.toNat)
theorem and7 (v : UInt64) : (v &&& 7).toNat = v.toNat % 8 := by
  rw [UInt64.toNat_and, show (7 : UInt64).toNat = 2 ^ 3 - 1 from rfl, Nat.and_two_pow_sub_one_eq_mod]
theorem shr3 (v : UInt64) : (shrU v ((3 : UInt64).toNat)).toNat = v.toNat / 8 := shrU_nat v (n := 3) (by omega)
theorem n1 : (1 : UInt64).toNat = 1 := rfl
theorem n2 : (2 : UInt64).toNat = 2 := rfl
theorem n8 : (8 : UInt64).toNat = 8 := rfl
theorem nM : (536870911 : UInt64).toNat = 536870911 := rfl
theorem bclone_eq {l : List UInt8} (h : l.length ≤ 100000000) : bytes_Clone l = some l := by
  unfold bytes_Clone
  rw [app_ok (by simp only [List.length_nil]; omega)]; rfl
theorem Wfield_eq {b : List UInt8} {at_ : Nat} (hl : b.length ≤ 100000000) (h : at_ ≤ b.length) :
    ∃ f nx, wire_field b (at_ : Int) = some (f, nx, (fieldS (b.drop at_)).1) ∧ ((fieldS (b.drop at_)).1 = 0 → f = (fieldS (b.drop at_)).2.1 ∧ nx = ((at_ + (fieldS (b.drop at_)).2.2 : Nat) : Int)) := by
  have hdl : (b.drop at_).length = b.length - at_ := List.length_drop
  unfold wire_field
  rw [WGet_eq hl h, bind_some]
  by_cases h1 : (gv (b.drop at_)).2.2 = 0
  case neg =>
    have e : fieldS (b.drop at_) = ((gv (b.drop at_)).2.2, F0, 0) := by unfold fieldS; rw [if_pos h1]
    refine ⟨F0, 0, ?_, fun h0 => ?_⟩
    · dsimp only
      rw [bifT (by simp [h1]), e]; rfl
    · rw [e] at h0; exact absurd h0 h1
  obtain ⟨n, g1, g2, g3, g4⟩ := gv_ok h1
  generalize hg : gv (b.drop at_) = g at *
  obtain ⟨v, n', e'⟩ := g
  simp only at h1 g1 g4
  subst h1; subst g1
  dsimp only
  rw [bifF (by rfl), w64_addN (by omega), lett_eq]
  have hn : ((n : Int)).toNat = n := by omega
  by_cases h2 : 2 < v.toNat % 8
  · have e : fieldS (b.drop at_) = (14, F0, 0) := by unfold fieldS; rw [hg, if_neg (by simp), if_pos h2]
    refine ⟨F0, 0, ?_, fun h0 => ?_⟩
    · rw [bifTd (by rw [UInt64.lt_iff_toNat_lt, and7, n2]; exact h2), e]; rfl
    · rw [e] at h0; exact absurd h0 (by decide)
  rw [bifFd (by rw [UInt64.lt_iff_toNat_lt, and7, n2]; exact h2)]
  by_cases h3 : v.toNat / 8 < 1 ∨ 536870911 < v.toNat / 8
  · have e : fieldS (b.drop at_) = (1, F0, 0) := by unfold fieldS; rw [hg, if_neg (by simp), if_neg h2, if_pos h3]
    refine ⟨F0, 0, ?_, fun h0 => ?_⟩
    · rw [bifT (by rw [Bool.or_eq_true, decide_eq_true_eq, decide_eq_true_eq, UInt64.lt_iff_toNat_lt, UInt64.lt_iff_toNat_lt, shr3, n1, nM]; exact h3), e]; rfl
    · rw [e] at h0; exact absurd h0 (by decide)
  rw [bifF (by rw [Bool.or_eq_false_iff, decide_eq_false_iff_not, decide_eq_false_iff_not, UInt64.lt_iff_toNat_lt, UInt64.lt_iff_toNat_lt, shr3, n1, nM]; omega), shr3, and7, w64_nat (by omega), w64_nat (by omega), lett_eq, lett_eq]
  by_cases h4 : v.toNat % 8 = 1
  · rw [bifTd (by omega), w64_id (x := (b.length : Int) - ((at_ + n : Nat) : Int)) (by omega) (by omega)]
    by_cases h5 : b.length - (at_ + n) < 8
    · have e : fieldS (b.drop at_) = (2, F0, 0) := by unfold fieldS; rw [hg, if_neg (by simp), if_neg h2, if_neg h3, if_pos h4, if_pos (by dsimp only; omega)]
      refine ⟨⟨((v.toNat / 8 : Nat) : Int), ((v.toNat % 8 : Nat) : Int), 0, []⟩, 0, ?_, fun h0 => ?_⟩
      · rw [bifTd (by omega), e]
      · rw [e] at h0; exact absurd h0 (by decide)
    · have e : fieldS (b.drop at_) = (0, ⟨((v.toNat / 8 : Nat) : Int), 1, UInt64.ofNat (le8 (((b.drop at_).drop n).take 8)), []⟩, n + 8) := by unfold fieldS; rw [hg, if_neg (by simp), if_neg h2, if_neg h3, if_pos h4, if_neg (by dsimp only; omega)]; rfl
      have ed : (b.take (at_ + n + 8)).drop (at_ + n) = ((b.drop at_).drop n).take 8 := by
        rw [List.drop_drop, List.drop_take]; congr 1; omega
      refine ⟨⟨((v.toNat / 8 : Nat) : Int), 1, UInt64.ofNat (le8 (((b.drop at_).drop n).take 8)), []⟩, ((at_ + n + 8 : Nat) : Int), ?_, fun _ => ?_⟩
      · rw [bifFd (by omega), show ((at_ + n : Nat) : Int) + 8 = ((at_ + n + 8 : Nat) : Int) by omega, w64_nat (by omega), slc_nat (by omega) (by omega), bind_some, ed, Wfield_lp (by rw [List.length_take, List.length_drop, List.length_drop]; omega), flow_go, bind_some, lett_eq, e, h4]; rfl
      · rw [e]
        exact ⟨rfl, by dsimp only; omega⟩
  have edd : b.drop (at_ + n) = (b.drop at_).drop n := by rw [List.drop_drop]
  rw [bifFd (by omega), WGet_eq hl (by omega), bind_some, edd]
  by_cases h6 : (gv ((b.drop at_).drop n)).2.2 = 0
  case neg =>
    have e : fieldS (b.drop at_) = ((gv ((b.drop at_).drop n)).2.2, F0, 0) := by unfold fieldS; rw [hg, if_neg (by simp), if_neg h2, if_neg h3, if_neg h4]; dsimp only; rw [hn, if_pos h6]
    refine ⟨⟨((v.toNat / 8 : Nat) : Int), ((v.toNat % 8 : Nat) : Int), 0, []⟩, 0, ?_, fun h0 => ?_⟩
    · rw [bifT (by rw [Bool.not_eq_true', decide_eq_false_iff_not]; exact h6), e]
    · rw [e] at h0; exact absurd h0 h6
  obtain ⟨m, k1, k2, k3, k4⟩ := gv_ok h6
  have hdl2 : ((b.drop at_).drop n).length = b.length - (at_ + n) := by rw [List.length_drop]; omega
  generalize hg2 : gv ((b.drop at_).drop n) = g2' at *
  obtain ⟨v2, n2', e2'⟩ := g2'
  simp only at h6 k1 k4
  subst h6; subst k1
  dsimp only
  have hm : ((m : Int)).toNat = m := by omega
  rw [bifF (by rfl), w64_addN (by omega), lett_eq]
  by_cases h7 : v.toNat % 8 = 0
  · have e : fieldS (b.drop at_) = (0, ⟨((v.toNat / 8 : Nat) : Int), 0, v2, []⟩, n + m) := by unfold fieldS; rw [hg, if_neg (by simp), if_neg h2, if_neg h3, if_neg h4]; dsimp only; rw [hn, hg2, if_neg (by simp), if_pos h7]; rfl
    refine ⟨⟨((v.toNat / 8 : Nat) : Int), 0, v2, []⟩, ((at_ + n + m : Nat) : Int), ?_, fun _ => ?_⟩
    · rw [bifTd (by omega), e, h7]; rfl
    · rw [e]; exact ⟨rfl, by dsimp only; omega⟩
  rw [bifFd (by omega)]
  have e8 : (toU64 (w64 ((b.length : Int) - ((at_ + n + m : Nat) : Int)))).toNat = b.length - (at_ + n + m) := by
    rw [w64_subN (by omega) (by omega), toU64_nat (by omega)]
  by_cases h9 : b.length - (at_ + n + m) < v2.toNat
  · have e : fieldS (b.drop at_) = (2, F0, 0) := by unfold fieldS; rw [hg, if_neg (by simp), if_neg h2, if_neg h3, if_neg h4]; dsimp only; rw [hn, hg2, if_neg (by simp), if_neg h7, if_pos (by dsimp only; omega)]
    refine ⟨⟨((v.toNat / 8 : Nat) : Int), ((v.toNat % 8 : Nat) : Int), 0, []⟩, 0, ?_, fun h0 => ?_⟩
    · rw [bifTd (by rw [UInt64.lt_iff_toNat_lt, e8]; exact h9), e]
    · rw [e] at h0; exact absurd h0 (by decide)
  · have e : fieldS (b.drop at_) = (0, ⟨((v.toNat / 8 : Nat) : Int), 2, 0, ((b.drop at_).drop (n + m)).take v2.toNat⟩, n + m + v2.toNat) := by unfold fieldS; rw [hg, if_neg (by simp), if_neg h2, if_neg h3, if_neg h4]; dsimp only; rw [hn, hg2, if_neg (by simp), if_neg h7, if_neg (by dsimp only; omega)]; rfl
    have ed : (b.take (at_ + n + m + v2.toNat)).drop (at_ + n + m) = ((b.drop at_).drop (n + m)).take v2.toNat := by
      rw [List.drop_drop, List.drop_take, Nat.add_assoc at_ n m]; congr 1; omega
    have hc : (((b.drop at_).drop (n + m)).take v2.toNat).length ≤ 100000000 := by rw [List.length_take, List.length_drop, List.length_drop]; omega
    refine ⟨⟨((v.toNat / 8 : Nat) : Int), 2, 0, ((b.drop at_).drop (n + m)).take v2.toNat⟩, ((at_ + n + m + v2.toNat : Nat) : Int), ?_, fun _ => ?_⟩
    · rw [bifFd (by rw [UInt64.lt_iff_toNat_lt, e8]; exact h9), w64_nat (a := v2.toNat) (by omega), w64_addN (by omega), slc_nat (by omega) (by omega), bind_some, ed, bclone_eq hc, bind_some, lett_eq, e, show v.toNat % 8 = 2 by omega]; rfl
    · rw [e]; exact ⟨rfl, by dsimp only; omega⟩
end Go.Lg
