/- Lemmas about the given model and about plain data, which the rows stand on: no statement of the program by itself. -/
import Derived.Test.YtihlealbhlgikaaDoorRcLgPart1
set_option linter.unusedVariables false
namespace Go.Lg
attribute [local irreducible] w64 toU64 toU8 shlU shrU shlB shrB spanS
theorem ga_of {n : List UInt8} {l : List api_Pair} (h : labelE n l = 0) : GA l := by
  unfold labelE at h
  split at h
  · cases h
  · split at h
    · cases h
    · have h3 := (firstE_none _ _).1 (firstE_pair h)
      have key : ∀ (j : Nat) (hj : j < l.length), (nameOk l[j].Key = true ∧ valueOk l[j].Val = true) ∧ ∀ k (hk : k < j), (l[k]'(by omega)).Key ≠ l[j].Key := by
        intro j hj
        have h4 := h3 j (Nat.zero_le _) (by omega)
        unfold pairE at h4
        have hg : ∀ k (hk : k < l.length), l.getD k P0 = l[k] := fun k hk => by simp [List.getD, hk]
        rw [hg j hj] at h4
        split at h4
        · rename_i h5
          split at h4
          · cases h4
          · rename_i h6
            simp only [Bool.and_eq_true] at h5
            refine ⟨h5, fun k hk e => h6 ?_⟩
            unfold dupB
            rw [decide_eq_true_eq]
            exact ⟨k, hk, by rw [hg k (by omega), hg j hj]; exact e⟩
        · cases h4
      refine ⟨fun a ha => ?_, ?_⟩
      · obtain ⟨j, hj, rfl⟩ := List.getElem_of_mem ha
        exact (key j hj).1
      · unfold List.Nodup
        rw [List.pairwise_iff_getElem]
        intro i j hi hj hij
        rw [List.length_map] at hi hj
        rw [List.getElem_map, List.getElem_map]
        exact (key j hj).2 i hij
/-- what Apply answers -/
def applyE (rs : List api_Rule) (p : api_Point) : api_Point × Bool × Int :=
  if chkE p ≠ 0 then (Pt0, false, chkE p) else match thruE p.Name rs 0 p.Attrs with
  | .inl _ => (Pt0, false, 0)
  | .inr l => if chkE { p with Attrs := l } ≠ 0 then (Pt0, false, chkE { p with Attrs := l }) else ({ p with Attrs := srt l }, true, 0)
def stopE (rs : List api_Rule) (p : api_Point) : Int :=
  if chkE p ≠ 0 then -1 else match thruE p.Name rs 0 p.Attrs with
  | .inl k => (k : Int)
  | .inr _ => -1
theorem chk_ga {p : api_Point} (h : chkE p = 0) : GA p.Attrs ∧ p.Name.length ≤ 32 ∧ p.Attrs.length ≤ 4 :=
  have h1 := chk_label h
  have h2 := label_lens h1
  ⟨ga_of h1, h2.1, h2.2.1⟩
section
variable {rs : List api_Rule} (gr : ∀ r ∈ rs, GoodR r) (hr : rs.length ≤ 100) {p : api_Point} (o : OkH p.Hist)
include gr hr o
theorem apply_eq : relabel_Rules_Apply ⟨rs.map mkR⟩ p = some (applyE rs p) := by
  unfold relabel_Rules_Apply applyE
  rw [chk_eq o, bind_some]
  by_cases hc : chkE p = 0
  case neg => rw [bifT (by simp [hc]), if_pos hc]; rfl
  obtain ⟨g, hn, hl⟩ := chk_ga hc
  rw [bifF (by simp [hc]), if_neg (fun e => e hc), clone_p (by omega) o, bind_some]
  obtain ⟨q', hq⟩ := run_eq gr hr g (by omega) (by omega)
  rw [hq, bind_some]
  cases ht : thruE p.Name rs 0 p.Attrs with
  | inl k => dsimp only [runO]; rw [bifTd (by omega)]; rfl
  | inr l =>
    dsimp only [runO]
    rw [bifFd (by omega), chk_eq (p := { p with Attrs := l }) o, bind_some]
    by_cases hc2 : chkE { p with Attrs := l } = 0
    case neg => rw [bifT (by simp [hc2]), if_pos hc2]; rfl
    obtain ⟨g2, hn2, hl2⟩ := chk_ga hc2
    rw [bifF (by simp [hc2]), if_neg (fun e => e hc2), sorted_eq l (by dsimp only at hl2; omega), bind_some]
theorem stop_eq : relabel_Rules_Stop ⟨rs.map mkR⟩ p = some (stopE rs p) := by
  unfold relabel_Rules_Stop stopE
  rw [chk_eq o, bind_some]
  by_cases hc : chkE p = 0
  case neg => rw [bifT (by simp [hc]), if_pos hc]
  obtain ⟨g, hn, hl⟩ := chk_ga hc
  rw [bifF (by simp [hc]), if_neg (fun e => e hc), clone_p (by omega) o, bind_some]
  obtain ⟨q', hq⟩ := run_eq gr hr g (by omega) (by omega)
  rw [hq, bind_some]
  cases ht : thruE p.Name rs 0 p.Attrs <;> rfl
end
/-! ### what the document tells -/
def R1 : api_Rule := ⟨2, [], [116, 109, 112, 46, 42], [], []⟩
def R2 : api_Rule := ⟨3, [], [42], [101, 110, 118], [112, 114, 111, 100]⟩
def R3 : api_Rule := ⟨1, [], [42], [], []⟩
def R4 : api_Rule := ⟨1, [], [91], [], []⟩
theorem comp_r1 : comp [116, 109, 112, 46, 42] = .inr [byteP 116, byteP 109, byteP 112, byteP 46, ⟨1, nilS, false, 0⟩] := rfl
theorem comp_r2 : comp [42] = .inr [⟨1, nilS, false, 0⟩] := rfl
theorem comp_r4 : comp [91] = .inl (0, 2) := rfl
theorem rule_r1 : ruleE R1 = 0 := by unfold ruleE R1; rw [if_neg (by decide), comp_r1]; rfl
theorem rule_r2 : ruleE R2 = 0 := by unfold ruleE R2; rw [if_neg (by decide), comp_r2]; decide
theorem rule_r3 : ruleE R3 = 0 := by unfold ruleE R3; rw [if_neg (by decide), comp_r2]; rfl
theorem rule_r4 : ruleE R4 = 2 := by unfold ruleE R4; rw [if_neg (by decide), comp_r4]
theorem comp_12 : compR [R1, R2] = (some ⟨[R1, R2].map mkR⟩, 0, 0) := by
  unfold compR
  rw [if_neg (by decide), badR_of (fun r hr => by
    rcases List.mem_cons.1 hr with rfl | hr
    · exact rule_r1
    · rw [List.mem_singleton] at hr; subst hr; exact rule_r2)]
theorem comp_34 : compR [R3, R4] = (none, 1, 2) := by
  unfold compR
  rw [if_neg (by decide)]
  have : badR [R3, R4] 0 = some (1, 2) := by
    unfold badR
    rw [if_neg (fun e => e rule_r3)]
    unfold badR
    rw [rule_r4, if_pos (by decide)]
  rw [this]; rfl
def gP (n : List UInt8) (l : List api_Pair) : api_Point := ⟨n, l, 3, 0, false, 0, 0, 0, 0, 0, ⟨0, 0, ⟨0, []⟩, ⟨0, []⟩⟩, 0⟩
theorem hold1 (n : List UInt8) (l : List api_Pair) : holdsE R1 n l = mt ([byteP 116, byteP 109, byteP 112, byteP 46, ⟨1, nilS, false, 0⟩].map pcOf) n := by
  unfold holdsE mG looked R1
  dsimp only
  rw [comp_r1, if_pos rfl]; rfl
theorem hold2 (n : List UInt8) (l : List api_Pair) : holdsE R2 n l = true := by
  unfold holdsE mG looked R2
  dsimp only
  rw [comp_r2, if_pos rfl]
  exact mt_rest _
theorem gP_ok (n : List UInt8) (l : List api_Pair) : OkH (gP n l).Hist := H0_good.ok
theorem awake33 : law33_awake = some true := by
  have gr : ∀ r ∈ [R1, R2], GoodR r := fun r hr => goodR (by
    rcases List.mem_cons.1 hr with rfl | hr
    · exact rule_r1
    · rw [List.mem_singleton] at hr; subst hr; exact rule_r2)
  have c1 : chkE (gP [97] []) = 0 := by decide +kernel
  have c2 : chkE (gP [97] [⟨[101, 110, 118], [112, 114, 111, 100]⟩]) = 0 := by decide +kernel
  have c3 : chkE (gP [116, 109, 112, 46, 97] []) = 0 := by decide +kernel
  have m1 : holdsE R1 [97] [] = false := by
    rw [hold1]
    simp [pcOf, byteP, mt_oc, inS_byte]
  have m2 : holdsE R1 [116, 109, 112, 46, 97] [] = true := by
    rw [hold1]
    simp [pcOf, byteP, mt_oc, mt_sc, mt_sn, mt_nil, inS_byte]
  have t1 : thruE [97] [R1, R2] 0 [] = .inr [⟨[101, 110, 118], [112, 114, 111, 100]⟩] := by
    have e1 : turnE R1 [97] [] = some [] := by unfold turnE; rw [m1]; rfl
    have e2 : turnE R2 [97] [] = some [⟨[101, 110, 118], [112, 114, 111, 100]⟩] := by unfold turnE; rw [hold2]; rfl
    unfold thruE
    rw [e1]
    dsimp only
    unfold thruE
    rw [e2]
    rfl
  have t2 : thruE [116, 109, 112, 46, 97] [R1, R2] 0 [] = .inl 0 := by
    have e1 : turnE R1 [116, 109, 112, 46, 97] [] = none := by unfold turnE; rw [m2]; rfl
    unfold thruE
    rw [e1]
  have a1 : applyE [R1, R2] (gP [97] []) = (gP [97] [⟨[101, 110, 118], [112, 114, 111, 100]⟩], true, 0) := by
    unfold applyE
    rw [if_neg (fun e => e c1)]
    have e : (gP [97] []).Name = [97] ∧ (gP [97] []).Attrs = [] := ⟨rfl, rfl⟩
    rw [e.1, e.2, t1]
    dsimp only
    rw [if_neg]
    · rfl
    · exact fun e => e c2
  have a2 : applyE [R1, R2] (gP [116, 109, 112, 46, 97] []) = (Pt0, false, 0) := by
    unfold applyE
    rw [if_neg (fun e => e c3)]
    have e : (gP [116, 109, 112, 46, 97] []).Name = [116, 109, 112, 46, 97] ∧ (gP [116, 109, 112, 46, 97] []).Attrs = [] := ⟨rfl, rfl⟩
    rw [e.1, e.2, t2]
  have s2 : stopE [R1, R2] (gP [116, 109, 112, 46, 97] []) = 0 := by
    unfold stopE
    rw [if_neg (fun e => e c3)]
    have e : (gP [116, 109, 112, 46, 97] []).Name = [116, 109, 112, 46, 97] ∧ (gP [116, 109, 112, 46, 97] []).Attrs = [] := ⟨rfl, rfl⟩
    rw [e.1, e.2, t2]; rfl
  have q1 := apply_eq gr (by decide) (gP_ok [97] [])
  have q2 := apply_eq gr (by decide) (gP_ok [116, 109, 112, 46, 97] [])
  have q3 := stop_eq gr (by decide) (gP_ok [116, 109, 112, 46, 97] [])
  rw [a1] at q1
  rw [a2] at q2
  rw [s2] at q3
  unfold gP at q1 q2 q3
  have e1 : relabel_Compile [(api_Rule.mk 2 [] [116, 109, 112, 46, 42] [] []), (api_Rule.mk 3 [] [42] [101, 110, 118] [112, 114, 111, 100])] = _ := compR_eq [R1, R2]
  have e2 : relabel_Compile [(api_Rule.mk 1 [] [42] [] []), (api_Rule.mk 1 [] [91] [] [])] = _ := compR_eq [R3, R4]
  rw [comp_12] at e1
  rw [comp_34] at e2
  unfold law33_awake
  rw [e1, e2, bind_some]
  dsimp only
  rw [bind_some]
  dsimp only
  rw [bind_some, bifF (by simp)]
  unfold relabel_Rules_Len
  rw [lett_eq, bind_some, bind_some, bifF (by simp), q1, bind_some]
  dsimp only
  rw [q2, bind_some]
  dsimp only
  rw [bifT (by simp), idx_0 (by simp), bind_some, bind_some, bifT (by simp), q3, bind_some, bind_some]
  rfl
end Go.Lg
namespace Go.Lg
attribute [local irreducible] w64 toU64 toU8 shlU shrU shlB shrB spanS
/-! ### attributes in another order -/
end Go.Lg
namespace Go.Lg
attribute [local irreducible] w64 toU64 toU8 shlU shrU shlB shrB spanS
theorem few_some (l : List api_Rule) : ∃ b, ref33_Few l = some b ∧ (b = true → l.length ≤ 70) := by
  unfold ref33_Few
  by_cases h : 70 < l.length
  · exact ⟨false, by rw [bifTd (by omega)], fun e => by cases e⟩
  · rw [bifFd (by omega), scan0 (n := l.length) (fun i => if 70 < (l.getD i ⟨0, [], [], [], []⟩).Glob.length ∨ 100 < (l.getD i ⟨0, [], [], [], []⟩).Key.length ∨ 100 < (l.getD i ⟨0, [], [], [], []⟩).To.length ∨ 100 < (l.getD i ⟨0, [], [], [], []⟩).Val.length then some false else none) (fun i hi => by
      unfold ref33_Few_lp1
      have hg : l.getD i ⟨0, [], [], [], []⟩ = l[i] := by simp [List.getD, hi]
      rw [hg, bifTd (by omega), idx_nat hi, bind_some, bind_some]
      generalize l[i] = r
      by_cases h1 : 70 < r.Glob.length
      · rw [bifTd (by omega), bind_some, cond_true, bind_some, cond_true, bind_some, bifT rfl, if_pos (.inl h1)]; rfl
      rw [bifFd (by omega), bind_some]
      by_cases h2 : 100 < r.Key.length
      · rw [bifTd (by omega), bind_some, cond_true, bind_some, bifT rfl, if_pos (.inr (.inl h2))]; rfl
      rw [bifFd (by omega), bind_some, bind_some]
      by_cases h3 : 100 < r.To.length
      · rw [bifTd (by omega), bind_some, bifT rfl, if_pos (.inr (.inr (.inl h3)))]; rfl
      rw [bifFd (by omega), bind_some, bind_some]
      by_cases h4 : 100 < r.Val.length
      · rw [bifTd (by omega), if_pos (.inr (.inr (.inr h4)))]; rfl
      rw [bifFd (by omega), if_neg (by omega), lett_eq, w64_succ (by omega)]; rfl) (by
      unfold ref33_Few_lp1
      rw [bifFd (by omega)]), flow_E]
    cases firstE (fun i => if 70 < (l.getD i ⟨0, [], [], [], []⟩).Glob.length ∨ 100 < (l.getD i ⟨0, [], [], [], []⟩).Key.length ∨ 100 < (l.getD i ⟨0, [], [], [], []⟩).To.length ∨ 100 < (l.getD i ⟨0, [], [], [], []⟩).Val.length then some false else none) l.length 0 with
    | none => exact ⟨true, rfl, fun _ => by omega⟩
    | some b => exact ⟨b, rfl, fun _ => by omega⟩
/-! ### RelabelChecks -/
def chkF (at_ : Int) : Option (Nat × Int) → Int × Int
  | some x => ((x.1 : Int), x.2)
  | none => (at_, 0)
theorem checks_loop {l : List api_Rule} (hl : l.length ≤ 70) : ∀ (m i : Nat) (at_ : Int), i + m = l.length → ∃ at2, loop (law33_RelabelChecks_lp1 l) (at_, 0, (i : Int)) = some (.go (chkF at2 (badR (l.drop i) i))) := by
  intro m
  induction m with
  | zero =>
    intro i at_ hi
    refine ⟨at_, ?_⟩
    rw [List.drop_eq_nil_of_le (by omega)]
    refine loop_brk ?_
    unfold law33_RelabelChecks_lp1
    dsimp only
    rw [bifF (by simp; omega)]; rfl
  | succ m ih =>
    intro i at_ hi
    have hlt : i < l.length := by omega
    rw [List.drop_eq_getElem_cons hlt]
    have hst : law33_RelabelChecks_lp1 l (at_, 0, (i : Int)) = some (.next ((i : Int), ruleE l[i], ((i + 1 : Nat) : Int))) := by
      unfold law33_RelabelChecks_lp1
      dsimp only
      rw [bifT (by simp; omega), idx_nat hlt, bind_some, rcheck_eq33, bind_some, bind_some, check_eq33, bind_some, bifF (by simp), lett_eq, w64_succ (by omega)]
    unfold badR
    by_cases e : ruleE l[i] = 0
    · rw [if_neg (fun h => h e)]
      rw [e] at hst
      obtain ⟨at2, h2⟩ := ih (i + 1) (i : Int) (by omega)
      exact ⟨at2, by rw [loop_next hst, h2]⟩
    · rw [if_pos e]
      refine ⟨0, ?_⟩
      rw [loop_next hst]
      refine loop_brk ?_
      unfold law33_RelabelChecks_lp1
      dsimp only
      rw [bifF (by simp [e])]; rfl
theorem relabelChecks (l : List api_Rule) : law33_RelabelChecks l = some true := by
  unfold law33_RelabelChecks
  obtain ⟨b, hb, hl⟩ := few_some l
  rw [awake33, bind_some, bifF (c := !true) rfl, hb, bind_some]
  cases b with
  | false => rw [bifT (c := !false) rfl]
  | true =>
    have hl := hl rfl
    rw [bifF (c := !true) rfl]
    by_cases h : 64 < l.length
    · rw [bifTd (by omega), bind_some]
      dsimp only
      have hb : loop (law33_RelabelChecks_lp1 l) (64, 4, 0) = some (.go (64, 4)) := loop_brk (by
        unfold law33_RelabelChecks_lp1
        dsimp only
        rw [bifF (by simp)])
      have hc : compR l = (none, 64, 4) := by unfold compR; rw [if_pos h]
      rw [hb, flow_go]
      dsimp only
      rw [flow_go]
      dsimp only
      rw [compR_eq, hc, bind_some]
      dsimp only
      rw [bifF (by simp), bifT (by rfl), lett_eq]
      simp
    · rw [bifFd (by omega), bind_some]
      dsimp only
      obtain ⟨at2, h2⟩ := checks_loop hl l.length 0 0 (by omega)
      rw [List.drop_zero] at h2
      have h2' : loop (law33_RelabelChecks_lp1 l) (0, 0, 0) = _ := h2
      rw [h2', flow_go]
      try dsimp only
      rw [flow_go]
      dsimp only
      rw [compR_eq, bind_some]
      unfold compR
      rw [if_neg h]
      cases hb : badR l 0 with
      | some x =>
        have := badR_err hb
        dsimp only [chkF]
        rw [bifF (by simp [this]), bifT (by rfl), lett_eq]
        simp
      | none =>
        dsimp only [chkF]
        rw [bifF (by simp), bifF (by rfl), bifT (by simp), bind_some]
        unfold relabel_Rules_Len
        rw [lett_eq, bind_some, bind_some]
        simp
/-! ### RelabelApplies -/
/-! ### RelabelParts -/
/-! ### RelabelNone -/
end Go.Lg
