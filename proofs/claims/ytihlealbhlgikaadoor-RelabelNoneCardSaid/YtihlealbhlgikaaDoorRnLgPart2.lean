/- Lemmas about the given model and about plain data, which the rows stand on: no statement of the program by itself. -/
import Derived.Test.YtihlealbhlgikaaDoorRnLgPart1
set_option linter.unusedVariables false
namespace Go.Lg
attribute [local irreducible] w64 toU64 toU8 shlU shrU shlB shrB spanS
theorem labelE_nil (s : List UInt8) : labelE s [] = if nameOk s = true then 0 else 3 := by
  unfold labelE
  cases nameOk s <;> rfl
theorem isKey_eq (s : List UInt8) : relabel_isKey s = some (nameOk s) := by
  unfold relabel_isKey
  rw [label_eq, bind_some, lett_eq, labelE_nil]
  cases nameOk s <;> rfl
theorem labelE_one (s : List UInt8) : labelE [120] [⟨[120], s⟩] = if valueOk s = true then 0 else 3 := by
  have hn : nameOk [120] = true := by decide
  have hd : dupB [⟨[120], s⟩] 0 = false := by
    unfold dupB
    rw [decide_eq_false]
    rintro ⟨k, hk, _⟩
    omega
  unfold labelE
  rw [hn, if_neg (by simp), if_neg (by simp), List.length_singleton]
  unfold firstE
  have : pairE [⟨[120], s⟩] 0 = if valueOk s = true then none else some 3 := by
    unfold pairE
    rw [show ([⟨[120], s⟩] : List api_Pair).getD 0 P0 = ⟨[120], s⟩ from rfl, hd]
    dsimp only
    rw [hn, Bool.true_and]
    cases valueOk s <;> rfl
  rw [this]
  cases valueOk s
  · rfl
  · simp [firstE]
theorem isValueR_eq (s : List UInt8) : relabel_isValue s = some (valueOk s) := by
  unfold relabel_isValue
  rw [label_eq, bind_some, lett_eq, labelE_one]
  cases valueOk s <;> rfl
/-- what is wrong with a rule -/
def restB (r : api_Rule) : Bool :=
  if r.Kind = 4 then !decide (r.Key = []) && nameOk r.To && decide (r.Val = []) else if r.Kind = 3 then nameOk r.To && valueOk r.Val
  else if r.Kind = 5 then decide (r.Key = []) && decide (r.To = []) && decide (r.Val = []) else decide (r.To = []) && decide (r.Val = [])
def keyB (r : api_Rule) : Bool := decide (r.Key = []) || nameOk r.Key
def ruleE (r : api_Rule) : Int :=
  if r.Kind < 1 ∨ 5 < r.Kind then 14
  else match comp r.Glob with
  | .inl x => x.2
  | .inr _ => if (keyB r && restB r) = true then 0 else 3
theorem rest4 {r : api_Rule} (h : r.Kind = 4) : restB r = (!decide (r.Key = []) && nameOk r.To && decide (r.Val = [])) := by unfold restB; rw [if_pos h]
theorem rest3 {r : api_Rule} (h : r.Kind = 3) : restB r = (nameOk r.To && valueOk r.Val) := by unfold restB; rw [if_neg (by omega), if_pos h]
theorem rest5 {r : api_Rule} (h : r.Kind = 5) : restB r = (decide (r.Key = []) && decide (r.To = []) && decide (r.Val = [])) := by unfold restB; rw [if_neg (by omega), if_neg (by omega), if_pos h]
theorem rest0 {r : api_Rule} (h4 : r.Kind ≠ 4) (h3 : r.Kind ≠ 3) (h5 : r.Kind ≠ 5) : restB r = (decide (r.To = []) && decide (r.Val = [])) := by unfold restB; rw [if_neg h4, if_neg h3, if_neg h5]
theorem check_eq33 (r : api_Rule) : relabel_Check r = some (ruleE r) := by
  unfold relabel_Check ruleE
  by_cases h : r.Kind < 1 ∨ 5 < r.Kind
  · rw [bifT (by simpa using h), if_pos h]
  rw [bifF (by rw [Bool.or_eq_false_iff, decide_eq_false_iff_not, decide_eq_false_iff_not]; omega), if_neg h, compile_g]
  cases hc : comp r.Glob with
  | inl x =>
    have := comp_no hc
    dsimp only [GC2]
    rw [bind_some, bifT (by simp [this])]
  | inr ps =>
    dsimp only [GC2]
    rw [bind_some, bifF (by simp)]
    have e1 : (bif decide (r.Key = []) then some true else (relabel_isKey r.Key).bind fun r44 => some r44 : Option Bool) = some (keyB r) := by
      unfold keyB
      by_cases k : r.Key = []
      · rw [bifTd k, decide_eq_true k]; rfl
      · rw [bifFd k, isKey_eq, bind_some, decide_eq_false k, Bool.false_or]
    rw [e1, bind_some, lett_eq]
    by_cases k4 : r.Kind = 4
    · rw [bifTd k4, rest4 k4]
      cases hk : (keyB r && !decide (r.Key = [])) with
      | false =>
        rw [cond_false, bind_some, lett_eq, bind_some, ← Bool.and_assoc, ← Bool.and_assoc, hk]; rfl
      | true =>
        rw [cond_true, isKey_eq, bind_some, bind_some, lett_eq, bind_some, ← Bool.and_assoc, ← Bool.and_assoc, hk, Bool.true_and]
        cases (nameOk r.To && decide (r.Val = [])) <;> rfl
    · rw [bifFd k4, lett_eq]
      by_cases k3 : r.Kind = 3
      · rw [bifTd k3, rest3 k3]
        cases keyB r with
        | false => rfl
        | true =>
          rw [cond_true, isKey_eq, bind_some, bind_some]
          cases nameOk r.To with
          | false => rfl
          | true =>
            rw [cond_true, isValueR_eq, bind_some, bind_some, bind_some]
            cases valueOk r.Val <;> rfl
      · rw [bifFd k3, lett_eq]
        by_cases k5 : r.Kind = 5
        · rw [bifTd k5, lett_eq, bind_some, rest5 k5]
          unfold keyB
          by_cases a : r.Key = [] <;> by_cases b : r.To = [] <;> by_cases c : r.Val = [] <;> simp [a, b, c]
        · rw [bifFd k5, lett_eq, bind_some, rest0 k4 k3 k5, ← Bool.and_assoc]
          cases (keyB r && decide (r.To = []) && decide (r.Val = [])) <;> rfl
/-- a rule with its pattern -/
def mkR (r : api_Rule) : relabel_rule := ⟨r, (GC2 r.Glob (comp r.Glob)).1⟩
/-- the first rule that is not right -/
def badR : List api_Rule → Nat → Option (Nat × Int)
  | [], _ => none
  | r :: rs, i => if ruleE r ≠ 0 then some (i, ruleE r) else badR rs (i + 1)
def compR (l : List api_Rule) : Option relabel_Rules × Int × Int :=
  if 64 < l.length then (none, 64, 4) else match badR l 0 with
  | some x => (none, (x.1 : Int), x.2)
  | none => (some ⟨l.map mkR⟩, 0, 0)
def badF (acc : List relabel_rule) : Option (Nat × Int) → Flow (List relabel_rule) (Option relabel_Rules × Int × Int)
  | some x => .out (none, (x.1 : Int), x.2)
  | none => .go acc
theorem compR_loop {l : List api_Rule} (hl : l.length ≤ 64) : ∀ (m i : Nat), i + m = l.length → loop (relabel_Compile_lp1 l) ((l.take i).map mkR, (i : Int)) = some (badF (l.map mkR) (badR (l.drop i) i)) := by
  intro m
  induction m with
  | zero =>
    intro i hi
    rw [List.drop_eq_nil_of_le (by omega), List.take_of_length_le (by omega)]
    refine loop_brk ?_
    unfold relabel_Compile_lp1
    dsimp only
    rw [bifFd (by omega)]
  | succ m ih =>
    intro i hi
    have hlt : i < l.length := by omega
    rw [List.drop_eq_getElem_cons hlt]
    unfold badR
    by_cases e : ruleE l[i] = 0
    · have hst : relabel_Compile_lp1 l ((l.take i).map mkR, (i : Int)) = some (.next ((l.take (i + 1)).map mkR, ((i + 1 : Nat) : Int))) := by
        unfold relabel_Compile_lp1
        dsimp only
        rw [bifTd (by omega), idx_nat hlt, bind_some, check_eq33, bind_some, bifF (by simp [e]), compile_g, bind_some]
        rw [app_ok (by simp; omega), bind_some, w64_succ (by omega), List.take_succ_eq_append_getElem hlt, List.map_append]
        rfl
      rw [loop_next hst, if_neg (fun h => h e), ih (i + 1) (by omega)]
    · rw [if_pos e]
      refine loop_out ?_
      unfold relabel_Compile_lp1
      dsimp only
      rw [bifTd (by omega), idx_nat hlt, bind_some, check_eq33, bind_some, bifT (by simp [e])]
      rfl
theorem compR_eq (l : List api_Rule) : relabel_Compile l = some (compR l) := by
  unfold relabel_Compile compR
  by_cases h : 64 < l.length
  · rw [bifTd (by omega), if_pos h]
  · have := compR_loop (l := l) (by omega) l.length 0 (by omega)
    rw [List.take_zero, List.drop_zero, List.map_nil] at this
    rw [bifFd (by omega), if_neg h, show (0 : Int) = ((0 : Nat) : Int) from rfl, this]
    cases badR l 0 <;> rfl
theorem badR_none {l : List api_Rule} : ∀ {i : Nat}, badR l i = none → ∀ r ∈ l, ruleE r = 0 := by
  induction l with
  | nil => intro i _ r hr; cases hr
  | cons x xs ih =>
    intro i h r hr
    unfold badR at h
    split at h
    · cases h
    · rename_i e
      rcases List.mem_cons.1 hr with rfl | hr
      · exact Classical.not_not.1 e
      · exact ih h r hr
theorem badR_of {l : List api_Rule} : ∀ {i : Nat}, (∀ r ∈ l, ruleE r = 0) → badR l i = none := by
  induction l with
  | nil => intro i _; rfl
  | cons x xs ih =>
    intro i h
    unfold badR
    rw [if_neg (fun e => e (h x (by simp)))]
    exact ih fun r hr => h r (by simp [hr])
theorem badR_err {l : List api_Rule} : ∀ {i : Nat} {x : Nat × Int}, badR l i = some x → x.2 ≠ 0 := by
  induction l with
  | nil => intro i x h; cases h
  | cons y ys ih =>
    intro i x h
    unfold badR at h
    split at h
    · rename_i e; cases h; exact e
    · exact ih h
/-- what a right rule is -/
structure GoodR (r : api_Rule) : Prop where
  k : 1 ≤ r.Kind ∧ r.Kind ≤ 5
  c : ∃ ps, comp r.Glob = .inr ps
  n : r.Key = [] ∨ nameOk r.Key = true
  k4 : r.Kind = 4 → r.Key ≠ [] ∧ nameOk r.To = true
  k3 : r.Kind = 3 → nameOk r.To = true ∧ valueOk r.Val = true
theorem goodR {r : api_Rule} (h : ruleE r = 0) : GoodR r := by
  unfold ruleE at h
  split at h
  · cases h
  · rename_i hk
    split at h
    · rename_i x hx
      exact absurd h (comp_no hx)
    · rename_i ps hp
      split at h
      · rename_i g
        rw [Bool.and_eq_true] at g
        refine ⟨by omega, ⟨ps, hp⟩, by simpa [keyB] using g.1, fun e => ?_, fun e => ?_⟩
        · have := g.2
          rw [rest4 e] at this
          simp only [Bool.and_eq_true, Bool.not_eq_true', decide_eq_false_iff_not] at this
          exact this.1
        · have := g.2
          rw [rest3 e] at this
          simpa using this
      · cases h
end Go.Lg
namespace Go.Lg
attribute [local irreducible] w64 toU64 toU8 shlU shrU shlB shrB spanS
/-- an attribute's value -/
def getA (l : List api_Pair) (k : List UInt8) : Option (List UInt8) := (l.find? fun a => decide (a.Key = k)).map (·.Val)
/-- does a rule's pattern match -/
def mG (r : api_Rule) (s : List UInt8) : Bool := match comp r.Glob with
  | .inl _ => false
  | .inr ps => mt (ps.map pcOf) s
def looked (r : api_Rule) (n : List UInt8) (l : List api_Pair) : Option (List UInt8) := if r.Key = [] then some n else getA l r.Key
def holdsE (r : api_Rule) (n : List UInt8) (l : List api_Pair) : Bool := mG r ((looked r n l).getD [])
/-- what a rule makes of attributes; none: the point is let go -/
def turnE (r : api_Rule) (n : List UInt8) (l : List api_Pair) : Option (List api_Pair) :=
  if r.Kind = 1 then (if holdsE r n l = true then some l else none)
  else if r.Kind = 2 then (if holdsE r n l = true then none else some l)
  else if r.Kind = 3 then (if holdsE r n l = true then some (woA l r.To ++ [⟨r.To, r.Val⟩]) else some l)
  else if r.Kind = 4 then (match getA l r.Key with
    | some v => if holdsE r n l = true then some (woA (woA l r.Key) r.To ++ [⟨r.To, v⟩]) else some l
    | none => some l)
  else some (l.filter fun a => !mG r a.Key)
/-- texts that are not too long -/
structure Sh (n : List UInt8) (l : List api_Pair) : Prop where
  n : n.length ≤ 1000
  kv : ∀ a ∈ l, a.Key.length ≤ 1000 ∧ a.Val.length ≤ 1000
theorem getA_idx {l : List api_Pair} {k : List UInt8} : getA l k = (l.findIdx? fun a => decide (a.Key = k)).bind fun i => l[i]?.map (·.Val) := by
  unfold getA
  induction l with
  | nil => rfl
  | cons a l ih =>
    rw [List.find?_cons, List.findIdx?_cons]
    cases h : decide (a.Key = k) with
    | true => rfl
    | false =>
      rw [if_neg (by simp)]
      simp only
      rw [ih]
      cases (l.findIdx? fun a => decide (a.Key = k)) <;> rfl
theorem getA_mem {l : List api_Pair} {k v : List UInt8} (h : getA l k = some v) : ∃ a ∈ l, a.Key = k ∧ a.Val = v := by
  unfold getA at h
  obtain ⟨a, h1, h2⟩ := Option.map_eq_some_iff.1 h
  have h3 := List.find?_some h1
  exact ⟨a, List.mem_of_find?_eq_some h1, by simpa using h3, h2⟩
section
variable {r : api_Rule} {n : List UInt8} {l : List api_Pair} {p : api_Point}
theorem match_mG (g : GoodR r) {s : List UInt8} (hs : s.length ≤ 1000) : ((mkR r).g).bind (fun d => (glob_Glob_Match d s).bind fun x => some x) = some (mG r s) := by
  obtain ⟨ps, hp⟩ := g.c
  have hl := comp_len hp
  unfold mkR mG
  rw [hp]
  dsimp only [GC2]
  rw [bind_some, gmatch_eq _ _ (by dsimp only; omega) hs, bind_some]
theorem looked_len (sh : Sh n l) : ((looked r n l).getD []).length ≤ 1000 := by
  unfold looked
  split
  · exact sh.n
  · cases h : getA l r.Key with
    | none => exact Nat.zero_le _
    | some v =>
      obtain ⟨a, h1, _, h2⟩ := getA_mem h
      rw [← h2]; exact (sh.kv a h1).2
theorem holds_eq (g : GoodR r) (sh : Sh p.Name p.Attrs) (hl : p.Attrs.length ≤ 1000) : relabel_rule_holds (mkR r) p = some (holdsE r p.Name p.Attrs) := by
  unfold relabel_rule_holds
  have e : (bif (!decide ((mkR r).Rule.Key = [])) then
      (relabel_find p.Attrs (mkR r).Rule.Key).bind fun r49 =>
      bif decide (0 ≤ r49) then
      (idx p.Attrs r49).bind fun e60 =>
      some e60.Val
      else
      some []
      else
      some p.Name : Option (List UInt8)) = some ((looked r p.Name p.Attrs).getD []) := by
    unfold looked mkR
    dsimp only
    by_cases k : r.Key = []
    · rw [bifF (by simp [k]), if_pos k]; rfl
    · rw [bifT (by simp [k]), if_neg k, find_eq (by omega), bind_some, getA_idx]
      cases h : p.Attrs.findIdx? fun a => decide (a.Key = r.Key) with
      | none => rw [show idxI none = -1 from rfl, bifFd (by omega)]; rfl
      | some i =>
        have hi := (List.findIdx?_eq_some_iff_getElem.1 h).1
        rw [show idxI (some i) = (i : Int) from rfl, bifTd (by omega), idx_nat hi, bind_some, Option.bind_some, List.getElem?_eq_getElem hi]; rfl
  rw [e, bind_some]
  unfold holdsE
  exact match_mG g (looked_len sh)
theorem woA_len (k : List UInt8) : (woA l k).length ≤ l.length := List.length_filter_le _ _
theorem turn_eq (g : GoodR r) (sh : Sh p.Name p.Attrs) (hl : p.Attrs.length ≤ 900) :
    relabel_rule_turn (mkR r) p = some (match turnE r p.Name p.Attrs with | none => (false, p) | some l => (true, { p with Attrs := l })) := by
  unfold relabel_rule_turn turnE
  rw [holds_eq g sh (by omega), bind_some, lett_eq]
  have eR : (mkR r).Rule = r := rfl
  rw [eR]
  by_cases k1 : r.Kind = 1
  · rw [bifTd k1, if_pos k1]
    cases holdsE r p.Name p.Attrs <;> rfl
  rw [bifFd k1, if_neg k1, lett_eq]
  by_cases k2 : r.Kind = 2
  · rw [bifTd k2, if_pos k2, lett_eq]
    cases holdsE r p.Name p.Attrs <;> rfl
  rw [bifFd k2, if_neg k2, lett_eq]
  by_cases k3 : r.Kind = 3
  · rw [bifTd k3, if_pos k3]
    cases holdsE r p.Name p.Attrs with
    | false => rfl
    | true =>
      rw [cond_true, without_eq (by omega), bind_some, bind_some]
      dsimp only
      have := woA_len (l := p.Attrs) r.To
      rw [app_ok (by simp; omega), bind_some]; rfl
  rw [bifFd k3, if_neg k3, lett_eq]
  by_cases k4 : r.Kind = 4
  · rw [bifTd k4, if_pos k4, find_eq (by omega), bind_some, getA_idx]
    cases h : p.Attrs.findIdx? fun a => decide (a.Key = r.Key) with
    | none => rw [show idxI none = -1 from rfl, bifF (by simp)]; rfl
    | some i =>
      have hi := (List.findIdx?_eq_some_iff_getElem.1 h).1
      rw [show idxI (some i) = (i : Int) from rfl, Option.bind_some, List.getElem?_eq_getElem hi]
      dsimp only [Option.map_some]
      cases holdsE r p.Name p.Attrs with
      | false => rw [bifF (by simp)]; rfl
      | true =>
        have h1 := woA_len (l := p.Attrs) r.Key
        have h2 := woA_len (l := woA p.Attrs r.Key) r.To
        rw [bifT (by simp), idx_nat hi, bind_some, without_eq (by omega), bind_some, without_eq (by omega), bind_some, bind_some]
        dsimp only
        rw [bind_some]
        dsimp only
        rw [app_ok (by simp; omega), bind_some]; rfl
  rw [bifFd k4, if_neg k4, lett_eq]
  have k5 : r.Kind = 5 := by have := g.k; omega
  rw [bifTd k5, cloneP_eq (by omega), bind_some]
  have := del_eq (fi := relabel_rule_turn_lp1 (mkR r) p.Attrs) (f := relabel_rule_turn_lp2 (mkR r)) (l := p.Attrs) (fun a => mG r a.Key) (by omega) ?_ ?_ ?_
  · rw [this, bind_some]
  · refine find_loop (l := p.Attrs) (fun a => mG r a.Key) (by omega) (fun i h => ?_) ?_
    · have := match_mG g (sh.kv _ (List.getElem_mem h)).1
      unfold relabel_rule_turn_lp1
      rw [bifTd (by omega), idx_nat h, bind_some, this, bind_some]
      cases hm : mG r p.Attrs[i].Key <;> simp [hm]
      rfl
    · unfold relabel_rule_turn_lp1
      rw [bifFd (by omega)]
  · intro s i j h hij hn hm
    have hg := match_mG g (sh.kv _ hm).1
    unfold relabel_rule_turn_lp2
    dsimp only
    rw [bifTd (by omega), idx_nat h, bind_some, hg, bind_some]
    cases mG r s[j].Key with
    | true =>
      rw [bifF (c := !true) rfl, bind_some]
      dsimp only
      rw [lett_eq, w64_succ (by omega), if_pos rfl]
    | false =>
      rw [bifT (c := !false) rfl, idx_nat (by omega), bind_some, setI_nat (by omega), bind_some, lett_eq, bind_some]
      dsimp only
      rw [lett_eq, w64_succ (by omega), w64_succ (by omega), if_neg (by simp)]
  · intro s i hn
    unfold relabel_rule_turn_lp2
    dsimp only
    rw [bifFd (by omega)]
end
end Go.Lg
namespace Go.Lg
attribute [local irreducible] w64 toU64 toU8 shlU shrU shlB shrB spanS
/-- attributes that are right but for how many they are -/
structure GA (l : List api_Pair) : Prop where
  g : ∀ a ∈ l, nameOk a.Key = true ∧ valueOk a.Val = true
  u : (l.map (·.Key)).Nodup
theorem nameOk_le {s : List UInt8} (h : nameOk s = true) : s.length ≤ 32 ∧ s ≠ [] := by
  unfold nameOk at h
  simp only [Bool.and_eq_true, decide_eq_true_eq] at h
  exact ⟨h.1.1.2, fun e => by rw [e] at h; simp at h⟩
theorem valueOk_le {s : List UInt8} (h : valueOk s = true) : s.length ≤ 32 := by
  unfold valueOk at h
  simp only [Bool.and_eq_true, decide_eq_true_eq] at h
  exact h.1.2
section
variable {r : api_Rule} {n : List UInt8} {l l' : List api_Pair} {p : api_Point}
theorem GA.sh (h : GA l) (hn : n.length ≤ 1000) : Sh n l := ⟨hn, fun a ha => by
  have h1 := nameOk_le (h.g a ha).1
  have h2 := valueOk_le (h.g a ha).2
  omega⟩
theorem GA.filter (h : GA l) (d : api_Pair → Bool) : GA (l.filter d) :=
  ⟨fun a ha => h.g a (List.mem_filter.1 ha).1, List.Sublist.nodup (List.Sublist.map _ List.filter_sublist) h.u⟩
theorem GA.put (h : GA l) {k v : List UInt8} (hk : nameOk k = true) (hv : valueOk v = true) : GA (woA l k ++ [⟨k, v⟩]) := by
  have h1 := h.filter (fun a => !decide (a.Key = k))
  refine ⟨fun a ha => ?_, ?_⟩
  · rcases List.mem_append.1 ha with ha | ha
    · exact h1.g a ha
    · rw [List.mem_singleton] at ha; subst ha; exact ⟨hk, hv⟩
  · rw [List.map_append, List.nodup_append]
    refine ⟨h1.u, by simp, ?_⟩
    intro a ha b hb
    obtain ⟨x, hx, rfl⟩ := List.mem_map.1 ha
    simp only [List.map_cons, List.map_nil, List.mem_singleton] at hb
    subst hb
    have := (List.mem_filter.1 hx).2
    simpa using this
theorem GA.turn (h : GA l) (g : GoodR r) (ht : turnE r n l = some l') : GA l' ∧ l'.length ≤ l.length + 1 := by
  unfold turnE at ht
  split at ht
  · split at ht
    · cases ht; exact ⟨h, by omega⟩
    · cases ht
  · split at ht
    · split at ht
      · cases ht
      · cases ht; exact ⟨h, by omega⟩
    · split at ht
      · rename_i k3
        split at ht
        · cases ht
          have := woA_len (l := l) r.To
          exact ⟨h.put (g.k3 k3).1 (g.k3 k3).2, by simp; omega⟩
        · cases ht; exact ⟨h, by omega⟩
      · split at ht
        · rename_i k4
          split at ht
          · rename_i v hv
            split at ht
            · cases ht
              have h1 := woA_len (l := l) r.Key
              have h2 := woA_len (l := woA l r.Key) r.To
              obtain ⟨a, ha, _, hav⟩ := getA_mem hv
              refine ⟨GA.put (h.filter _) (g.k4 k4).2 (by rw [← hav]; exact (h.g a ha).2), by simp; omega⟩
            · cases ht; exact ⟨h, by omega⟩
          · cases ht; exact ⟨h, by omega⟩
        · cases ht
          exact ⟨h.filter _, by have := List.length_filter_le (fun a => !mG r a.Key) l; omega⟩
end
/-- rules one behind the other: the place of that by which the point is let go, or the attributes -/
def thruE (n : List UInt8) : List api_Rule → Nat → List api_Pair → Nat ⊕ List api_Pair
  | [], _, l => .inr l
  | r :: rs, i, l => match turnE r n l with
    | none => .inl i
    | some l' => thruE n rs (i + 1) l'
abbrev St17 := List UInt8 × List api_Pair × Int × Int × Bool × Int × Int × Int × UInt64 × UInt64 × Int × UInt64 × Int × List UInt64 × Int × List UInt64 × Int
abbrev st17 (q : api_Point) : St17 := (q.Name, q.Attrs, q.Kind, q.Temp, q.Mono, q.Start, q.Time, q.Int_, q.Re, q.Im, q.Hist.Scale, q.Hist.Zero, q.Hist.Pos.Offset, q.Hist.Pos.Counts, q.Hist.Neg.Offset, q.Hist.Neg.Counts, q.Flags)
abbrev st18 (q : api_Point) (i : Int) := (q.Name, q.Attrs, q.Kind, q.Temp, q.Mono, q.Start, q.Time, q.Int_, q.Re, q.Im, q.Hist.Scale, q.Hist.Zero, q.Hist.Pos.Offset, q.Hist.Pos.Counts, q.Hist.Neg.Offset, q.Hist.Neg.Counts, q.Flags, i)
def thruF (p q' : api_Point) : Nat ⊕ List api_Pair → Flow St17 (Int × api_Point)
  | .inl k => .out ((k : Int), q')
  | .inr l => .go (st17 { p with Attrs := l })
theorem run_loop {rs : List api_Rule} (gr : ∀ r ∈ rs, GoodR r) (hr : rs.length ≤ 100) : ∀ (m i : Nat) (q : api_Point), i + m = rs.length → GA q.Attrs → q.Name.length ≤ 1000 → q.Attrs.length ≤ 200 + i →
    ∃ q', loop (relabel_Rules_run_lp1 ⟨rs.map mkR⟩) (st18 q (i : Int)) = some (thruF q q' (thruE q.Name (rs.drop i) i q.Attrs)) := by
  intro m
  induction m with
  | zero =>
    intro i q hi _ _ _
    refine ⟨q, ?_⟩
    rw [List.drop_eq_nil_of_le (by omega)]
    refine loop_brk ?_
    unfold relabel_Rules_run_lp1
    dsimp only
    rw [bifFd (by rw [List.length_map]; omega)]
  | succ m ih =>
    intro i q hi hg hn hl
    have hlt : i < rs.length := by omega
    have hgr := gr _ (List.getElem_mem hlt)
    have ht := turn_eq hgr (hg.sh hn) (p := q) (by omega)
    rw [List.drop_eq_getElem_cons hlt]
    unfold thruE
    have hx : idx (rs.map mkR) (i : Int) = some (mkR rs[i]) := by rw [idx_nat (by rw [List.length_map]; exact hlt), List.getElem_map]
    cases hE : turnE rs[i] q.Name q.Attrs with
    | none =>
      rw [hE] at ht
      refine ⟨q, loop_out ?_⟩
      unfold relabel_Rules_run_lp1
      dsimp only
      rw [bifTd (by rw [List.length_map]; omega), hx, bind_some]
      show (relabel_rule_turn (mkR rs[i]) q).bind _ = _
      rw [ht, bind_some]; rfl
    | some l' =>
      rw [hE] at ht
      obtain ⟨g1, g2⟩ := hg.turn hgr hE
      obtain ⟨q', hq⟩ := ih (i + 1) { q with Attrs := l' } (by omega) g1 hn (by dsimp only; omega)
      refine ⟨q', ?_⟩
      have hst : relabel_Rules_run_lp1 ⟨rs.map mkR⟩ (st18 q (i : Int)) = some (.next (st18 { q with Attrs := l' } ((i + 1 : Nat) : Int))) := by
        unfold relabel_Rules_run_lp1
        dsimp only
        rw [bifTd (by rw [List.length_map]; omega), hx, bind_some]
        show (relabel_rule_turn (mkR rs[i]) q).bind _ = _
        rw [ht, bind_some]
        dsimp only
        rw [bifF (c := !true) rfl, w64_succ (by omega)]
      rw [loop_next hst, hq]
      dsimp only
      cases thruE q.Name (rs.drop (i + 1)) (i + 1) l' <;> rfl
def runO (p q' : api_Point) : Nat ⊕ List api_Pair → Int × api_Point
  | .inl k => ((k : Int), q')
  | .inr l => (-1, { p with Attrs := l })
theorem run_eq {rs : List api_Rule} (gr : ∀ r ∈ rs, GoodR r) (hr : rs.length ≤ 100) {p : api_Point} (hg : GA p.Attrs) (hn : p.Name.length ≤ 1000) (hl : p.Attrs.length ≤ 200) :
    ∃ q', relabel_Rules_run ⟨rs.map mkR⟩ p = some (runO p q' (thruE p.Name rs 0 p.Attrs)) := by
  obtain ⟨q', h⟩ := run_loop gr hr rs.length 0 p (by omega) hg hn (by omega)
  refine ⟨q', ?_⟩
  unfold relabel_Rules_run
  rw [List.drop_zero] at h
  have h' : loop (relabel_Rules_run_lp1 ⟨rs.map mkR⟩) (st18 p 0) = _ := h
  rw [h']
  cases thruE p.Name rs 0 p.Attrs <;> rfl
/-! ### the document's -/
end Go.Lg
namespace Go.Lg
attribute [local irreducible] w64 toU64 toU8 shlU shrU shlB shrB spanS
theorem ga_of {n : List UInt8} {l : List api_Pair} (h : labelE n l = 0) : GA l := by
  unfold labelE at h
  split at h
  · cases h
  · split at h
    · cases h
    · have h3 := (firstE_none _ _).1 (firstE_pair h)
      have key : ∀ (j : Nat) (hj : j < l.length), (nameOk l[j].Key = true ∧ valueOk l[j].Val = true) ∧ ∀ k (hk : k < j), (l[k]'(by omega)).Key ≠ l[j].Key := by
        intro j hj
        have h4 := h3 j (Nat.zero_le _) (by omega)
        unfold pairE at h4
        have hg : ∀ k (hk : k < l.length), l.getD k P0 = l[k] := fun k hk => by simp [List.getD, hk]
        rw [hg j hj] at h4
        split at h4
        · rename_i h5
          split at h4
          · cases h4
          · rename_i h6
            simp only [Bool.and_eq_true] at h5
            refine ⟨h5, fun k hk e => h6 ?_⟩
            unfold dupB
            rw [decide_eq_true_eq]
            exact ⟨k, hk, by rw [hg k (by omega), hg j hj]; exact e⟩
        · cases h4
      refine ⟨fun a ha => ?_, ?_⟩
      · obtain ⟨j, hj, rfl⟩ := List.getElem_of_mem ha
        exact (key j hj).1
      · unfold List.Nodup
        rw [List.pairwise_iff_getElem]
        intro i j hi hj hij
        rw [List.length_map] at hi hj
        rw [List.getElem_map, List.getElem_map]
        exact (key j hj).2 i hij
/-- what Apply answers -/
def applyE (rs : List api_Rule) (p : api_Point) : api_Point × Bool × Int :=
  if chkE p ≠ 0 then (Pt0, false, chkE p) else match thruE p.Name rs 0 p.Attrs with
  | .inl _ => (Pt0, false, 0)
  | .inr l => if chkE { p with Attrs := l } ≠ 0 then (Pt0, false, chkE { p with Attrs := l }) else ({ p with Attrs := srt l }, true, 0)
def stopE (rs : List api_Rule) (p : api_Point) : Int :=
  if chkE p ≠ 0 then -1 else match thruE p.Name rs 0 p.Attrs with
  | .inl k => (k : Int)
  | .inr _ => -1
theorem chk_ga {p : api_Point} (h : chkE p = 0) : GA p.Attrs ∧ p.Name.length ≤ 32 ∧ p.Attrs.length ≤ 4 :=
  have h1 := chk_label h
  have h2 := label_lens h1
  ⟨ga_of h1, h2.1, h2.2.1⟩
section
variable {rs : List api_Rule} (gr : ∀ r ∈ rs, GoodR r) (hr : rs.length ≤ 100) {p : api_Point} (o : OkH p.Hist)
include gr hr o
theorem apply_eq : relabel_Rules_Apply ⟨rs.map mkR⟩ p = some (applyE rs p) := by
  unfold relabel_Rules_Apply applyE
  rw [chk_eq o, bind_some]
  by_cases hc : chkE p = 0
  case neg => rw [bifT (by simp [hc]), if_pos hc]; rfl
  obtain ⟨g, hn, hl⟩ := chk_ga hc
  rw [bifF (by simp [hc]), if_neg (fun e => e hc), clone_p (by omega) o, bind_some]
  obtain ⟨q', hq⟩ := run_eq gr hr g (by omega) (by omega)
  rw [hq, bind_some]
  cases ht : thruE p.Name rs 0 p.Attrs with
  | inl k => dsimp only [runO]; rw [bifTd (by omega)]; rfl
  | inr l =>
    dsimp only [runO]
    rw [bifFd (by omega), chk_eq (p := { p with Attrs := l }) o, bind_some]
    by_cases hc2 : chkE { p with Attrs := l } = 0
    case neg => rw [bifT (by simp [hc2]), if_pos hc2]; rfl
    obtain ⟨g2, hn2, hl2⟩ := chk_ga hc2
    rw [bifF (by simp [hc2]), if_neg (fun e => e hc2), sorted_eq l (by dsimp only at hl2; omega), bind_some]
theorem stop_eq : relabel_Rules_Stop ⟨rs.map mkR⟩ p = some (stopE rs p) := by
  unfold relabel_Rules_Stop stopE
  rw [chk_eq o, bind_some]
  by_cases hc : chkE p = 0
  case neg => rw [bifT (by simp [hc]), if_pos hc]
  obtain ⟨g, hn, hl⟩ := chk_ga hc
  rw [bifF (by simp [hc]), if_neg (fun e => e hc), clone_p (by omega) o, bind_some]
  obtain ⟨q', hq⟩ := run_eq gr hr g (by omega) (by omega)
  rw [hq, bind_some]
  cases ht : thruE p.Name rs 0 p.Attrs <;> rfl
omit gr hr in
theorem apply_pok (i : I64 p.Int_) : Pok (applyE rs p).1 := by
  unfold applyE
  split
  · exact Pt0_pok
  · split
    · exact Pt0_pok
    · split
      · exact Pt0_pok
      · rename_i l _ hc
        have hl := (chk_ga (Classical.not_not.1 hc)).2.2
        exact ⟨o, i, by rw [srt_length]; dsimp only at hl; omega⟩
end
/-! ### what the document tells -/
def R1 : api_Rule := ⟨2, [], [116, 109, 112, 46, 42], [], []⟩
def R2 : api_Rule := ⟨3, [], [42], [101, 110, 118], [112, 114, 111, 100]⟩
def R3 : api_Rule := ⟨1, [], [42], [], []⟩
def R4 : api_Rule := ⟨1, [], [91], [], []⟩
theorem comp_r1 : comp [116, 109, 112, 46, 42] = .inr [byteP 116, byteP 109, byteP 112, byteP 46, ⟨1, nilS, false, 0⟩] := rfl
theorem comp_r2 : comp [42] = .inr [⟨1, nilS, false, 0⟩] := rfl
theorem comp_r4 : comp [91] = .inl (0, 2) := rfl
theorem rule_r1 : ruleE R1 = 0 := by unfold ruleE R1; rw [if_neg (by decide), comp_r1]; rfl
theorem rule_r2 : ruleE R2 = 0 := by unfold ruleE R2; rw [if_neg (by decide), comp_r2]; decide
theorem rule_r3 : ruleE R3 = 0 := by unfold ruleE R3; rw [if_neg (by decide), comp_r2]; rfl
theorem rule_r4 : ruleE R4 = 2 := by unfold ruleE R4; rw [if_neg (by decide), comp_r4]
theorem comp_12 : compR [R1, R2] = (some ⟨[R1, R2].map mkR⟩, 0, 0) := by
  unfold compR
  rw [if_neg (by decide), badR_of (fun r hr => by
    rcases List.mem_cons.1 hr with rfl | hr
    · exact rule_r1
    · rw [List.mem_singleton] at hr; subst hr; exact rule_r2)]
theorem comp_34 : compR [R3, R4] = (none, 1, 2) := by
  unfold compR
  rw [if_neg (by decide)]
  have : badR [R3, R4] 0 = some (1, 2) := by
    unfold badR
    rw [if_neg (fun e => e rule_r3)]
    unfold badR
    rw [rule_r4, if_pos (by decide)]
  rw [this]; rfl
def gP (n : List UInt8) (l : List api_Pair) : api_Point := ⟨n, l, 3, 0, false, 0, 0, 0, 0, 0, ⟨0, 0, ⟨0, []⟩, ⟨0, []⟩⟩, 0⟩
theorem hold1 (n : List UInt8) (l : List api_Pair) : holdsE R1 n l = mt ([byteP 116, byteP 109, byteP 112, byteP 46, ⟨1, nilS, false, 0⟩].map pcOf) n := by
  unfold holdsE mG looked R1
  dsimp only
  rw [comp_r1, if_pos rfl]; rfl
theorem hold2 (n : List UInt8) (l : List api_Pair) : holdsE R2 n l = true := by
  unfold holdsE mG looked R2
  dsimp only
  rw [comp_r2, if_pos rfl]
  exact mt_rest _
theorem gP_ok (n : List UInt8) (l : List api_Pair) : OkH (gP n l).Hist := H0_good.ok
theorem awake33 : law33_awake = some true := by
  have gr : ∀ r ∈ [R1, R2], GoodR r := fun r hr => goodR (by
    rcases List.mem_cons.1 hr with rfl | hr
    · exact rule_r1
    · rw [List.mem_singleton] at hr; subst hr; exact rule_r2)
  have c1 : chkE (gP [97] []) = 0 := by decide +kernel
  have c2 : chkE (gP [97] [⟨[101, 110, 118], [112, 114, 111, 100]⟩]) = 0 := by decide +kernel
  have c3 : chkE (gP [116, 109, 112, 46, 97] []) = 0 := by decide +kernel
  have m1 : holdsE R1 [97] [] = false := by
    rw [hold1]
    simp [pcOf, byteP, mt_oc, inS_byte]
  have m2 : holdsE R1 [116, 109, 112, 46, 97] [] = true := by
    rw [hold1]
    simp [pcOf, byteP, mt_oc, mt_sc, mt_sn, mt_nil, inS_byte]
  have t1 : thruE [97] [R1, R2] 0 [] = .inr [⟨[101, 110, 118], [112, 114, 111, 100]⟩] := by
    have e1 : turnE R1 [97] [] = some [] := by unfold turnE; rw [m1]; rfl
    have e2 : turnE R2 [97] [] = some [⟨[101, 110, 118], [112, 114, 111, 100]⟩] := by unfold turnE; rw [hold2]; rfl
    unfold thruE
    rw [e1]
    dsimp only
    unfold thruE
    rw [e2]
    rfl
  have t2 : thruE [116, 109, 112, 46, 97] [R1, R2] 0 [] = .inl 0 := by
    have e1 : turnE R1 [116, 109, 112, 46, 97] [] = none := by unfold turnE; rw [m2]; rfl
    unfold thruE
    rw [e1]
  have a1 : applyE [R1, R2] (gP [97] []) = (gP [97] [⟨[101, 110, 118], [112, 114, 111, 100]⟩], true, 0) := by
    unfold applyE
    rw [if_neg (fun e => e c1)]
    have e : (gP [97] []).Name = [97] ∧ (gP [97] []).Attrs = [] := ⟨rfl, rfl⟩
    rw [e.1, e.2, t1]
    dsimp only
    rw [if_neg]
    · rfl
    · exact fun e => e c2
  have a2 : applyE [R1, R2] (gP [116, 109, 112, 46, 97] []) = (Pt0, false, 0) := by
    unfold applyE
    rw [if_neg (fun e => e c3)]
    have e : (gP [116, 109, 112, 46, 97] []).Name = [116, 109, 112, 46, 97] ∧ (gP [116, 109, 112, 46, 97] []).Attrs = [] := ⟨rfl, rfl⟩
    rw [e.1, e.2, t2]
  have s2 : stopE [R1, R2] (gP [116, 109, 112, 46, 97] []) = 0 := by
    unfold stopE
    rw [if_neg (fun e => e c3)]
    have e : (gP [116, 109, 112, 46, 97] []).Name = [116, 109, 112, 46, 97] ∧ (gP [116, 109, 112, 46, 97] []).Attrs = [] := ⟨rfl, rfl⟩
    rw [e.1, e.2, t2]; rfl
  have q1 := apply_eq gr (by decide) (gP_ok [97] [])
  have q2 := apply_eq gr (by decide) (gP_ok [116, 109, 112, 46, 97] [])
  have q3 := stop_eq gr (by decide) (gP_ok [116, 109, 112, 46, 97] [])
  rw [a1] at q1
  rw [a2] at q2
  rw [s2] at q3
  unfold gP at q1 q2 q3
  have e1 : relabel_Compile [(api_Rule.mk 2 [] [116, 109, 112, 46, 42] [] []), (api_Rule.mk 3 [] [42] [101, 110, 118] [112, 114, 111, 100])] = _ := compR_eq [R1, R2]
  have e2 : relabel_Compile [(api_Rule.mk 1 [] [42] [] []), (api_Rule.mk 1 [] [91] [] [])] = _ := compR_eq [R3, R4]
  rw [comp_12] at e1
  rw [comp_34] at e2
  unfold law33_awake
  rw [e1, e2, bind_some]
  dsimp only
  rw [bind_some]
  dsimp only
  rw [bind_some, bifF (by simp)]
  unfold relabel_Rules_Len
  rw [lett_eq, bind_some, bind_some, bifF (by simp), q1, bind_some]
  dsimp only
  rw [q2, bind_some]
  dsimp only
  rw [bifT (by simp), idx_0 (by simp), bind_some, bind_some, bifT (by simp), q3, bind_some, bind_some]
  rfl
end Go.Lg
namespace Go.Lg
attribute [local irreducible] w64 toU64 toU8 shlU shrU shlB shrB spanS
theorem sl_asymm : ∀ {a b : List UInt8}, sLess a b = true → sLess b a = false
  | [], [], h => by simp [sLess] at h
  | [], _ :: _, _ => by simp [sLess]
  | _ :: _, [], h => by simp [sLess] at h
  | x :: a, y :: b, h => by
    simp only [sLess, Bool.or_eq_true, Bool.and_eq_true, decide_eq_true_eq, UInt8.lt_iff_toNat_lt] at h
    simp only [sLess, Bool.or_eq_false_iff, Bool.and_eq_false_iff, decide_eq_false_iff_not, UInt8.lt_iff_toNat_lt]
    rcases h with h | ⟨rfl, h⟩
    · exact ⟨by omega, .inl fun e => by rw [e] at h; omega⟩
    · exact ⟨by omega, .inr (sl_asymm h)⟩
theorem sl_trans : ∀ {a b c : List UInt8}, sLess a b = true → sLess b c = true → sLess a c = true
  | _, [], _, h, _ => by simp [sLess] at h
  | _, _ :: _, [], _, h => by simp [sLess] at h
  | [], _ :: _, _ :: _, _, _ => by simp [sLess]
  | x :: a, y :: b, z :: c, h, k => by
    simp only [sLess, Bool.or_eq_true, Bool.and_eq_true, decide_eq_true_eq, UInt8.lt_iff_toNat_lt] at *
    rcases h with h | ⟨rfl, h⟩
    · rcases k with k | ⟨rfl, k⟩
      · left; omega
      · left; exact h
    · rcases k with k | ⟨rfl, k⟩
      · left; exact k
      · right; exact ⟨rfl, sl_trans h k⟩
theorem sl_tri : ∀ {a b : List UInt8}, sLess a b = false → sLess b a = false → a = b
  | [], [], _, _ => rfl
  | [], _ :: _, h, _ => by simp [sLess] at h
  | _ :: _, [], _, h => by simp [sLess] at h
  | x :: a, y :: b, h, k => by
    simp only [sLess, Bool.or_eq_false_iff, Bool.and_eq_false_iff, decide_eq_false_iff_not, UInt8.lt_iff_toNat_lt] at h k
    have e : x = y := UInt8.toNat_inj.1 (by omega)
    subst e
    have h2 : sLess a b = false := h.2.resolve_left fun f => f rfl
    have k2 : sLess b a = false := k.2.resolve_left fun f => f rfl
    rw [sl_tri h2 k2]
/-- by the keys, each one but once -/
abbrev Srt (l : List api_Pair) : Prop := l.Pairwise fun a b => sLess a.Key b.Key = true
theorem insK_perm (out : List api_Pair) (x : api_Pair) : List.Perm (insK out x) (x :: out) := by
  unfold insK
  refine List.perm_middle.trans ?_
  rw [List.take_append_drop]
theorem foldK_perm : ∀ (l out : List api_Pair), List.Perm (l.foldl insK out) (l ++ out)
  | [], out => List.Perm.refl _
  | x :: l, out => by
    rw [List.foldl_cons]
    refine (foldK_perm l (insK out x)).trans ?_
    refine ((insK_perm out x).append_left l).trans ?_
    exact List.perm_middle
theorem srt_perm (l : List api_Pair) : List.Perm (srt l) l := by
  have := foldK_perm l []
  rwa [List.append_nil] at this
theorem posK_spec {out : List api_Pair} {x : api_Pair} : ∀ {k : Nat}, k ≤ out.length → (∀ i, posK out x k ≤ i → i < k → sLess x.Key (out.getD i P0).Key = true) ∧ (0 < posK out x k → sLess x.Key (out.getD (posK out x k - 1) P0).Key = false)
  | 0, _ => ⟨fun i _ h => by omega, fun h => by simp [posK] at h⟩
  | k + 1, hk => by
    unfold posK
    by_cases h : sLess x.Key (out.getD k P0).Key = true
    · rw [if_pos h]
      have ih := posK_spec (out := out) (x := x) (k := k) (by omega)
      refine ⟨fun i h1 h2 => ?_, ih.2⟩
      by_cases e : i = k
      · subst e; exact h
      · exact ih.1 i h1 (by omega)
    · rw [if_neg h]
      exact ⟨fun i h1 h2 => by omega, fun _ => by rw [Nat.add_sub_cancel]; simpa using h⟩
theorem insK_srt {out : List api_Pair} {x : api_Pair} (h : Srt out) (hx : ∀ a ∈ out, a.Key ≠ x.Key) : Srt (insK out x) := by
  obtain ⟨h1, h2⟩ := posK_spec (out := out) (x := x) (Nat.le_refl out.length)
  have hle := posK_le out x out.length
  unfold insK
  generalize posK out x out.length = q at *
  have hg : ∀ i (hi : i < out.length), out.getD i P0 = out[i] := fun i hi => by simp [List.getD, hi]
  have hp := List.pairwise_iff_getElem.1 h
  have hbig : ∀ b ∈ out.drop q, sLess x.Key b.Key = true := by
    intro b hb
    obtain ⟨i, hi, rfl⟩ := List.getElem_of_mem hb
    rw [List.length_drop] at hi
    rw [List.getElem_drop, ← hg (q + i) (by omega)]
    exact h1 (q + i) (by omega) (by omega)
  have hsm : ∀ a ∈ out.take q, sLess a.Key x.Key = true := by
    intro a ha
    obtain ⟨i, hi, rfl⟩ := List.getElem_of_mem ha
    rw [List.length_take] at hi
    rw [List.getElem_take]
    have h3 := h2 (by omega)
    rw [hg (q - 1) (by omega)] at h3
    have h4 : sLess (out[q - 1]'(by omega)).Key x.Key = true := by
      by_cases e : sLess (out[q - 1]'(by omega)).Key x.Key = true
      · exact e
      · exact absurd (sl_tri (by simpa using e) h3) (hx _ (List.getElem_mem _))
    by_cases e : i = q - 1
    · subst e; exact h4
    · exact sl_trans (hp i (q - 1) (by omega) (by omega) (by omega)) h4
  have hs : Srt (out.take q ++ out.drop q) := by rw [List.take_append_drop]; exact h
  rw [Srt, List.pairwise_append] at hs
  rw [Srt, List.pairwise_append]
  refine ⟨hs.1, List.pairwise_cons.2 ⟨hbig, hs.2.1⟩, fun a ha b hb => ?_⟩
  rcases List.mem_cons.1 hb with rfl | hb
  · exact hsm a ha
  · exact hs.2.2 a ha b hb
theorem foldK_srt : ∀ (l out : List api_Pair), Srt out → ((l ++ out).map (·.Key)).Nodup → Srt (l.foldl insK out)
  | [], out, h, _ => h
  | x :: l, out, h, hu => by
    rw [List.foldl_cons]
    have hu' := hu
    rw [List.cons_append, List.map_cons, List.nodup_cons] at hu'
    refine foldK_srt l (insK out x) (insK_srt h fun a ha e => hu'.1 ?_) ?_
    · rw [← e]; exact List.mem_map_of_mem (List.mem_append_right _ ha)
    · have hp : List.Perm (l ++ insK out x) (x :: l ++ out) := ((insK_perm out x).append_left l).trans List.perm_middle
      exact (hp.map _).nodup_iff.2 hu
theorem srt_srt {l : List api_Pair} (h : (l.map (·.Key)).Nodup) : Srt (srt l) := foldK_srt l [] List.Pairwise.nil (by rwa [List.append_nil])
theorem srt_uniq {l m : List api_Pair} (hl : Srt l) (hm : Srt m) (h : List.Perm l m) : l = m := by
  refine List.Perm.eq_of_pairwise (le := fun a b => sLess a.Key b.Key = true) (fun a b _ _ h1 h2 => ?_) hl hm h
  rw [sl_asymm h1] at h2; cases h2
theorem srt_eq {l m : List api_Pair} (hl : (l.map (·.Key)).Nodup) (h : List.Perm l m) : srt l = srt m :=
  srt_uniq (srt_srt hl) (srt_srt ((h.map _).nodup_iff.1 hl)) ((srt_perm l).trans (h.trans (srt_perm m).symm))
theorem srt_self {l : List api_Pair} (hl : (l.map (·.Key)).Nodup) : srt (srt l) = srt l :=
  srt_eq ((srt_perm l).map _ |>.nodup_iff.2 hl) (srt_perm l)
/-! ### attributes in another order -/
end Go.Lg
namespace Go.Lg
attribute [local irreducible] w64 toU64 toU8 shlU shrU shlB shrB spanS
theorem few_some (l : List api_Rule) : ∃ b, ref33_Few l = some b ∧ (b = true → l.length ≤ 70) := by
  unfold ref33_Few
  by_cases h : 70 < l.length
  · exact ⟨false, by rw [bifTd (by omega)], fun e => by cases e⟩
  · rw [bifFd (by omega), scan0 (n := l.length) (fun i => if 70 < (l.getD i ⟨0, [], [], [], []⟩).Glob.length ∨ 100 < (l.getD i ⟨0, [], [], [], []⟩).Key.length ∨ 100 < (l.getD i ⟨0, [], [], [], []⟩).To.length ∨ 100 < (l.getD i ⟨0, [], [], [], []⟩).Val.length then some false else none) (fun i hi => by
      unfold ref33_Few_lp1
      have hg : l.getD i ⟨0, [], [], [], []⟩ = l[i] := by simp [List.getD, hi]
      rw [hg, bifTd (by omega), idx_nat hi, bind_some, bind_some]
      generalize l[i] = r
      by_cases h1 : 70 < r.Glob.length
      · rw [bifTd (by omega), bind_some, cond_true, bind_some, cond_true, bind_some, bifT rfl, if_pos (.inl h1)]; rfl
      rw [bifFd (by omega), bind_some]
      by_cases h2 : 100 < r.Key.length
      · rw [bifTd (by omega), bind_some, cond_true, bind_some, bifT rfl, if_pos (.inr (.inl h2))]; rfl
      rw [bifFd (by omega), bind_some, bind_some]
      by_cases h3 : 100 < r.To.length
      · rw [bifTd (by omega), bind_some, bifT rfl, if_pos (.inr (.inr (.inl h3)))]; rfl
      rw [bifFd (by omega), bind_some, bind_some]
      by_cases h4 : 100 < r.Val.length
      · rw [bifTd (by omega), if_pos (.inr (.inr (.inr h4)))]; rfl
      rw [bifFd (by omega), if_neg (by omega), lett_eq, w64_succ (by omega)]; rfl) (by
      unfold ref33_Few_lp1
      rw [bifFd (by omega)]), flow_E]
    cases firstE (fun i => if 70 < (l.getD i ⟨0, [], [], [], []⟩).Glob.length ∨ 100 < (l.getD i ⟨0, [], [], [], []⟩).Key.length ∨ 100 < (l.getD i ⟨0, [], [], [], []⟩).To.length ∨ 100 < (l.getD i ⟨0, [], [], [], []⟩).Val.length then some false else none) l.length 0 with
    | none => exact ⟨true, rfl, fun _ => by omega⟩
    | some b => exact ⟨b, rfl, fun _ => by omega⟩
theorem compR_cases (l : List api_Rule) : (∃ at_ e, compR l = (none, at_, e) ∧ e ≠ 0) ∨ (compR l = (some ⟨l.map mkR⟩, 0, 0) ∧ l.length ≤ 64 ∧ ∀ r ∈ l, ruleE r = 0) := by
  unfold compR
  by_cases h : 64 < l.length
  · rw [if_pos h]; exact .inl ⟨64, 4, rfl, by decide⟩
  · rw [if_neg h]
    cases hb : badR l 0 with
    | some x => exact .inl ⟨_, _, rfl, badR_err hb⟩
    | none => exact .inr ⟨rfl, by omega, badR_none hb⟩
theorem compR_good {l : List api_Rule} (h : ∀ r ∈ l, ruleE r = 0) (hl : l.length ≤ 64) : compR l = (some ⟨l.map mkR⟩, 0, 0) := by
  unfold compR
  rw [if_neg (by omega), badR_of h]
/-! ### RelabelChecks -/
/-! ### RelabelApplies -/
/-! ### RelabelParts -/
/-! ### RelabelNone -/
theorem none_lp1 : ∀ (m i : Nat) (c : List api_Pair), i + m = c.length → c.length ≤ 1000 → ∃ c', loop law33_RelabelNone_lp1 (c, (i : Int)) = some (.go c') := by
  intro m
  induction m with
  | zero =>
    intro i c hi _
    exact ⟨c, loop_brk (by unfold law33_RelabelNone_lp1; dsimp only; rw [bifFd (by omega)])⟩
  | succ m ih =>
    intro i c hi hc
    have hlt : i < c.length := by omega
    obtain ⟨c', h⟩ := ih (i + 1) (c.set i ⟨[33], c[i].Val⟩) (by rw [List.length_set]; omega) (by rw [List.length_set]; exact hc)
    refine ⟨c', ?_⟩
    rw [loop_next (s' := (c.set i ⟨[33], c[i].Val⟩, ((i + 1 : Nat) : Int))), h]
    unfold law33_RelabelNone_lp1
    dsimp only
    rw [bifTd (by omega), idx_nat hlt, bind_some, setI_nat hlt, bind_some, lett_eq, w64_succ (by omega)]
theorem none_lp2 : ∀ (m i : Nat) (c : List UInt64), i + m = c.length → c.length ≤ 1000000 → loop law33_RelabelNone_lp2 (c, (i : Int)) = some (.go ()) := by
  intro m
  induction m with
  | zero =>
    intro i c hi _
    exact loop_brk (by unfold law33_RelabelNone_lp2; dsimp only; rw [bifFd (by omega)])
  | succ m ih =>
    intro i c hi hc
    have hlt : i < c.length := by omega
    rw [loop_next (s' := (c.set i 77, ((i + 1 : Nat) : Int))), ih (i + 1) (c.set i 77) (by rw [List.length_set]; omega) (by rw [List.length_set]; exact hc)]
    unfold law33_RelabelNone_lp2
    dsimp only
    rw [bifTd (by omega), idx_nat hlt, bind_some, setI_nat hlt, bind_some, lett_eq, w64_succ (by omega)]
theorem relabelNone (l : List api_Rule) (p : api_Point) (ip : IsP p) : law33_RelabelNone l p = some true := by
  unfold law33_RelabelNone
  obtain ⟨b, hb, hl⟩ := few_some l
  rw [awake33, bind_some, bifF (c := !true) rfl, hb, bind_some]
  cases b with
  | false => rw [bifT (c := !false) rfl, bind_some, bifT rfl]
  | true =>
    rw [bifF (c := !true) rfl, rlightP_eq, bind_some, bind_some]
    by_cases lp : lightP p = true
    case neg => rw [bifT (by simpa using lp)]
    have ok := (lightP_of lp).pok ip
    have oa := ok.a
    rw [bifF (by simp [lp]), compR_eq, compR_good (fun r hr => by cases hr) (by decide), bind_some]
    dsimp only
    rw [bifF (by rfl), clone_p (by omega) ok.o, bind_some, compR_eq, bind_some]
    have hmid : ∀ F : Unit → Option Bool, ((match compR l with
        | (r181, r182, r183) =>
          bif r181.isSome then
          (r181).bind fun d199 =>
          (relabel_Rules_Apply d199 p).bind fun (r218, r219, r220) =>
          (flow (loop (law33_RelabelNone_lp1) (r218.Attrs, 0)) fun c279 =>
          some c279 : Option (List api_Pair)).bind fun c264 =>
          (flow (loop (law33_RelabelNone_lp2) (r218.Hist.Pos.Counts, 0)) fun (_ : Unit) =>
          some ()).bind fun (_ : Unit) =>
          some ()
          else
          some ()) : Option Unit).bind F = F () := by
      intro F
      rcases compR_cases l with ⟨a, e, h, _⟩ | ⟨h, h64, hg⟩
      · rw [h]; rfl
      · have gr : ∀ r ∈ l, GoodR r := fun r hr => goodR (hg r hr)
        have pk := apply_pok (rs := l) ok.o ok.i
        rw [h]
        dsimp only
        rw [bifT (by rfl), bind_some, apply_eq gr (by omega) ok.o, bind_some]
        try dsimp only
        obtain ⟨c', h1⟩ := none_lp1 (applyE l p).1.Attrs.length 0 (applyE l p).1.Attrs (by omega) (by have := pk.a; omega)
        have h2 := none_lp2 (applyE l p).1.Hist.Pos.Counts.length 0 (applyE l p).1.Hist.Pos.Counts (by omega) pk.o.pl
        have h1' : loop law33_RelabelNone_lp1 ((applyE l p).1.Attrs, 0) = _ := h1
        have h2' : loop law33_RelabelNone_lp2 ((applyE l p).1.Hist.Pos.Counts, 0) = _ := h2
        rw [h1', flow_go, bind_some, h2', flow_go, bind_some, bind_some]
    rw [hmid, bind_some]
    have ap := apply_eq (rs := []) (fun r hr => by cases hr) (by decide) ok.o
    rw [List.map_nil] at ap
    have hE : applyE [] p = if chkE p ≠ 0 then (Pt0, false, chkE p) else ({ p with Attrs := srt p.Attrs }, true, 0) := by
      unfold applyE
      split
      · rfl
      · rename_i hc
        show (if chkE p ≠ 0 then _ else _) = _
        rw [if_neg hc]
    rw [List.map_nil, ap, bind_some]
    try dsimp only
    rw [samePairs_self p.Attrs (by omega), bind_some, bifF (c := !true) rfl, same_pok ok, bind_some, bind_some, bifF (c := !true) rfl, rchk_eq ok.o, bind_some, bind_some]
    by_cases hc : chkE p = 0
    · obtain ⟨ga, _, hla⟩ := chk_ga hc
      rw [if_neg (fun e => e hc)] at hE
      rw [hE]
      dsimp only
      have hsame : ref12_Same p { p with Attrs := srt p.Attrs } = some true := by
        have h1 : ref12_Same p p = some true := same_pok ok
        unfold ref12_Same at h1 ⊢
        dsimp only
        rw [rsorted_eq p.Attrs (by omega)] at h1
        rw [rsorted_eq p.Attrs (by omega), rsorted_eq (srt p.Attrs) (by rw [srt_length]; omega), srt_self ga.u]
        exact h1
      rw [bifF (by simp [hc]), bifF (c := !true) rfl, hsame, bind_some, cond_true, rsorted_eq p.Attrs (by omega), bind_some, samePairs_self _ (by rw [srt_length]; omega), bind_some, bind_some, bind_some]
    · rw [if_pos hc] at hE
      rw [hE]
      dsimp only
      rw [bifF (by simp [hc]), bifT (c := !false) rfl, bind_some]
end Go.Lg
