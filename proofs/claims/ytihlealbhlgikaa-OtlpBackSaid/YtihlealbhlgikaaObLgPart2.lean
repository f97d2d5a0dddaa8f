/- Lemmas about the given model and about plain data, which the rows stand on: no statement of the program by itself. -/
import Derived.Test.YtihlealbhlgikaaObLgPart1
import Derived.Test.YtihlealbhlgikaaObLgPart0
set_option linter.unusedVariables false
namespace Go.Lg
attribute [local irreducible] w64 toU64 toU8 shlU shrU shlB shrB
/-! ### a field's bytes -/
structure FOk (f : api_Fld) : Prop where
  n1 : 1 ≤ f.Num
  n2 : f.Num ≤ 536870911
  t : f.Type_ = 0 ∨ f.Type_ = 1 ∨ f.Type_ = 2
  b : f.Type_ ≠ 2 → f.B = []
  v : f.Type_ = 2 → f.V = 0
def encF (f : api_Fld) : List UInt8 :=
  varL (8 * f.Num + f.Type_).toNat ++ (if f.Type_ = 0 then varL f.V.toNat else if f.Type_ = 1 then eightL f.V.toNat else varL f.B.length ++ f.B)
theorem field_ok {l : List UInt8} (hl : l.length ≤ 100000000) (h : (fieldS l).1 = 0) : FOk (fieldS l).2.1 ∧ encF (fieldS l).2.1 = l.take (fieldS l).2.2 ∧ 1 ≤ (fieldS l).2.2 ∧ (fieldS l).2.2 ≤ l.length := by
  by_cases h1 : (gv l).2.2 = 0
  case neg =>
    have e : fieldS l = ((gv l).2.2, F0, 0) := by unfold fieldS; rw [if_pos h1]
    rw [e] at h; exact absurd h h1
  obtain ⟨n, g1, g2, g3, g4⟩ := gv_ok h1
  generalize hg : gv l = g at *
  obtain ⟨v, n', e'⟩ := g
  simp only at h1 g1 g4
  subst h1; subst g1
  have hn : ((n : Int)).toNat = n := by omega
  have e0 : fieldS l = if 2 < v.toNat % 8 then (14, F0, 0)
    else if v.toNat / 8 < 1 ∨ 536870911 < v.toNat / 8 then (1, F0, 0)
    else if v.toNat % 8 = 1 then
      if l.length - n < 8 then (2, F0, 0)
      else (0, ⟨(v.toNat / 8 : Nat), 1, UInt64.ofNat (le8 ((l.drop n).take 8)), []⟩, n + 8)
    else if (gv (l.drop n)).2.2 ≠ 0 then ((gv (l.drop n)).2.2, F0, 0)
    else if v.toNat % 8 = 0 then (0, ⟨(v.toNat / 8 : Nat), 0, (gv (l.drop n)).1, []⟩, n + (gv (l.drop n)).2.1.toNat)
    else if l.length - (n + (gv (l.drop n)).2.1.toNat) < (gv (l.drop n)).1.toNat then (2, F0, 0)
    else (0, ⟨(v.toNat / 8 : Nat), 2, 0, (l.drop (n + (gv (l.drop n)).2.1.toNat)).take (gv (l.drop n)).1.toNat⟩, n + (gv (l.drop n)).2.1.toNat + (gv (l.drop n)).1.toNat) := by
    unfold fieldS; rw [hg, if_neg (by simp)]; rfl
  rw [e0] at h ⊢
  by_cases h2 : 2 < v.toNat % 8
  · rw [if_pos h2] at h; exact absurd h (by decide)
  rw [if_neg h2] at h ⊢
  by_cases h3 : v.toNat / 8 < 1 ∨ 536870911 < v.toNat / 8
  · rw [if_pos h3] at h; exact absurd h (by decide)
  rw [if_neg h3] at h ⊢
  have hv := UInt64.toNat_lt v
  by_cases h4 : v.toNat % 8 = 1
  · rw [if_pos h4] at h ⊢
    by_cases h5 : l.length - n < 8
    · rw [if_pos h5] at h; exact absurd h (by decide)
    rw [if_neg h5]
    have hd : (l.drop n).length = l.length - n := List.length_drop
    have h8 : ((l.drop n).take 8).length = 8 := by rw [List.length_take]; omega
    refine ⟨⟨by dsimp only; omega, by dsimp only; omega, .inr (.inl rfl), fun _ => rfl, fun h => absurd h (show ¬ ((1 : Int) = 2) by decide)⟩, ?_, by dsimp only; omega, by dsimp only; omega⟩
    unfold encF
    dsimp only
    have hb : le8 ((l.drop n).take 8) < 18446744073709551616 := by
      have := le8_lt ((l.drop n).take 8)
      rw [h8] at this
      have e : (256 : Nat) ^ 8 = 18446744073709551616 := by decide
      omega
    rw [if_neg (by decide), if_pos rfl, UInt64.toNat_ofNat', Nat.mod_eq_of_lt hb, eight_le h8, show (8 * ((v.toNat / 8 : Nat) : Int) + 1).toNat = v.toNat by omega, ← g4, ← List.take_add]
  rw [if_neg h4] at h ⊢
  by_cases h6 : (gv (l.drop n)).2.2 = 0
  case neg => rw [if_pos h6] at h; exact absurd h h6
  obtain ⟨m, k1, k2, k3, k4⟩ := gv_ok h6
  have hd : (l.drop n).length = l.length - n := List.length_drop
  rw [if_neg (by simp only [ne_eq]; exact fun e => e h6)] at h ⊢
  rw [k1] at h ⊢
  rw [show ((m : Int)).toNat = m by omega] at h ⊢
  by_cases h7 : v.toNat % 8 = 0
  · rw [if_pos h7]
    refine ⟨⟨by dsimp only; omega, by dsimp only; omega, .inl rfl, fun _ => rfl, fun h => absurd h (show ¬ ((0 : Int) = 2) by decide)⟩, ?_, by dsimp only; omega, by dsimp only; omega⟩
    unfold encF
    dsimp only
    rw [if_pos rfl, show (8 * ((v.toNat / 8 : Nat) : Int) + 0).toNat = v.toNat by omega, ← g4, ← k4, ← List.take_add]
  rw [if_neg h7] at h ⊢
  by_cases h9 : l.length - (n + m) < (gv (l.drop n)).1.toNat
  · rw [if_pos h9] at h; exact absurd h (by decide)
  rw [if_neg h9]
  refine ⟨⟨by dsimp only; omega, by dsimp only; omega, .inr (.inr rfl), fun h => absurd rfl h, fun _ => rfl⟩, ?_, by dsimp only; omega, by dsimp only; omega⟩
  unfold encF
  dsimp only
  have hbl : ((l.drop (n + m)).take (gv (l.drop n)).1.toNat).length = (gv (l.drop n)).1.toNat := by rw [List.length_take, List.length_drop]; omega
  rw [if_neg (by decide), if_neg (by decide), hbl, show (8 * ((v.toNat / 8 : Nat) : Int) + 2).toNat = v.toNat by omega, ← g4, ← k4, ← List.append_assoc, ← List.take_add, ← List.take_add]
def encL (l : List api_Fld) : List UInt8 := l.flatMap encF
theorem encL_snoc (l : List api_Fld) (f : api_Fld) : encL (l ++ [f]) = encL l ++ encF f := by simp [encL]
theorem check_ok {f : api_Fld} (h : FOk f) : wire_check f = some 0 := by
  have a := h.n1; have b := h.n2; have t := h.t
  unfold wire_check
  rw [lett_eq, bifF (by rw [Bool.or_eq_false_iff]; exact ⟨decide_eq_false (by omega), decide_eq_false (by omega)⟩), lett_eq, bifF (by rw [Bool.or_eq_false_iff]; exact ⟨decide_eq_false (by omega), decide_eq_false (by omega)⟩), lett_eq]
  by_cases t2 : f.Type_ = 2
  · rw [bifF (by rw [decide_eq_true t2]; rfl), lett_eq, bifF (by rw [h.v t2, decide_eq_true t2]; rfl)]
  · rw [bifF (by rw [h.b t2, Bool.and_eq_false_iff]; exact .inr (decide_eq_false (by simp))), lett_eq, bifF (by rw [decide_eq_false t2]; rfl)]
theorem encF_tag (f : api_Fld) (h : FOk f) : (toU64 (w64 ((w64 (8 * f.Num)) + f.Type_))).toNat = (8 * f.Num + f.Type_).toNat := by
  have a := h.n1; have b := h.n2; have t := h.t
  rw [w64_id (x := 8 * f.Num) (by omega) (by omega), w64_id (by omega) (by omega), toU64_val (by omega) (by omega)]
theorem Encode_step {l : List api_Fld} {i : Nat} (h : i < l.length) (hn : l.length ≤ 100000000) (hf : FOk l[i]) {out : List UInt8} (hl : out.length + (encF l[i]).length ≤ 100000000) :
    wire_Encode_lp1 l (out, (i : Int)) = some (.next (out ++ encF l[i], ((i + 1 : Nat) : Int))) := by
  have t := hf.t
  have ht := encF_tag _ hf
  unfold wire_Encode_lp1
  dsimp only
  rw [bifTd (by omega), idx_nat h, bind_some, check_ok hf, bind_some, bifF (by rfl), WVar_eq, ht, bind_some]
  have hE : encF l[i] = varL (8 * l[i].Num + l[i].Type_).toNat ++ (if l[i].Type_ = 0 then varL l[i].V.toNat else if l[i].Type_ = 1 then eightL l[i].V.toNat else varL l[i].B.length ++ l[i].B) := rfl
  rw [hE] at hl ⊢
  rw [List.length_append] at hl
  rw [app_ok (by omega), bind_some, lett_eq]
  by_cases t0 : l[i].Type_ = 0
  · rw [if_pos t0] at hl ⊢
    rw [bifTd t0, WVar_eq, bind_some, app_ok (by rw [List.length_append]; omega), bind_some, bind_some, w64_succ (by omega), List.append_assoc]
  · rw [if_neg t0] at hl ⊢
    rw [bifFd t0, lett_eq]
    by_cases t1 : l[i].Type_ = 1
    · rw [if_pos t1] at hl ⊢
      rw [bifTd t1, Weight_eq, bind_some, app_ok (by rw [List.length_append]; omega), bind_some, bind_some, w64_succ (by omega), List.append_assoc]
    · have t2 : l[i].Type_ = 2 := by omega
      rw [if_neg t1] at hl ⊢
      rw [List.length_append] at hl
      rw [bifFd t1, lett_eq, bifTd t2, WVar_eq, toU64_nat (by omega), bind_some, app_ok (by rw [List.length_append]; omega), bind_some, app_ok (by rw [List.length_append, List.length_append]; omega), bind_some, bind_some, w64_succ (by omega), List.append_assoc, List.append_assoc]
theorem Encode_eq {l : List api_Fld} (hf : ∀ f ∈ l, FOk f) (hl : (encL l).length ≤ 100000000) (hn : l.length ≤ 100000000) : wire_Encode l = some (encL l, 0) := by
  have key : ∀ (m i : Nat), i + m = l.length → loop (wire_Encode_lp1 l) (encL (l.take i), (i : Int)) = some (.go (encL l)) := by
    intro m
    induction m with
    | zero =>
      intro i hi
      refine loop_brk ?_
      unfold wire_Encode_lp1
      dsimp only
      rw [bifFd (by omega), List.take_of_length_le (by omega)]
    | succ m ih =>
      intro i hi
      have hlt : i < l.length := by omega
      have ht : l.take (i + 1) = l.take i ++ [l[i]] := by rw [List.take_add_one, List.getElem?_eq_getElem hlt]; rfl
      have hs : encL l = encL (l.take i) ++ encF l[i] ++ encL (l.drop (i + 1)) := by
        rw [← encL_snoc, ← ht]
        unfold encL
        rw [← List.flatMap_append, List.take_append_drop]
      have hlen := congrArg List.length hs
      simp only [List.length_append] at hlen
      rw [loop_next (Encode_step hlt hn (hf _ (List.getElem_mem hlt)) (by omega)), ← encL_snoc, ← ht]
      exact ih (i + 1) (by omega)
  have k0 : loop (wire_Encode_lp1 l) ([], 0) = _ := key l.length 0 (by omega)
  unfold wire_Encode
  rw [k0, flow_go]
/-! ### the document's way to read -/
theorem Rdec_step {b : List UInt8} {at_ : Nat} (hl : b.length ≤ 100000000) (h : at_ < b.length) (l : List api_Fld) (hn : l.length ≤ 100000000) :
    ref30_Decode_lp1 b (l, (at_ : Int)) = if (fieldS (b.drop at_)).1 = 0 then some (.next (l ++ [(fieldS (b.drop at_)).2.1], ((at_ + (fieldS (b.drop at_)).2.2 : Nat) : Int))) else some (.out ⟨[], at_, (fieldS (b.drop at_)).1⟩) := by
  have hdl : (b.drop at_).length = b.length - at_ := List.length_drop
  unfold ref30_Decode_lp1
  dsimp only
  rw [bifTd (by omega), RGet_eq hl (by omega), bind_some]
  by_cases h1 : (gv (b.drop at_)).2.2 = 0
  case neg =>
    have e : fieldS (b.drop at_) = ((gv (b.drop at_)).2.2, F0, 0) := by unfold fieldS; rw [if_pos h1]
    rw [bifT (by rw [Bool.not_eq_true', decide_eq_false_iff_not]; exact h1), e, if_neg h1]; rfl
  obtain ⟨n, g1, g2, g3, g4⟩ := gv_ok h1
  generalize hg : gv (b.drop at_) = g at *
  obtain ⟨v, n', e'⟩ := g
  simp only at h1 g1 g4
  subst h1; subst g1
  have hn' : ((n : Int)).toNat = n := by omega
  dsimp only
  have m8 : (v % 8).toNat = v.toNat % 8 := by rw [UInt64.toNat_mod]; rfl
  have d8 : (v / 8).toNat = v.toNat / 8 := by rw [UInt64.toNat_div]; rfl
  have hv := UInt64.toNat_lt v
  rw [bifF (by rfl)]
  by_cases h2 : 2 < v.toNat % 8
  · have e : fieldS (b.drop at_) = (14, F0, 0) := by unfold fieldS; rw [hg, if_neg (by simp), if_pos h2]
    rw [bifTd (by rw [UInt64.lt_iff_toNat_lt, m8, n2]; exact h2), e]; rfl
  rw [bifFd (by rw [UInt64.lt_iff_toNat_lt, m8, n2]; exact h2)]
  by_cases h3 : v.toNat / 8 < 1 ∨ 536870911 < v.toNat / 8
  · have e : fieldS (b.drop at_) = (1, F0, 0) := by unfold fieldS; rw [hg, if_neg (by simp), if_neg h2, if_pos h3]
    rw [bifT (by rw [Bool.or_eq_true, decide_eq_true_eq, decide_eq_true_eq, UInt64.lt_iff_toNat_lt, UInt64.lt_iff_toNat_lt, d8, n1, nM]; exact h3), e]; rfl
  rw [bifF (by rw [Bool.or_eq_false_iff, decide_eq_false_iff_not, decide_eq_false_iff_not, UInt64.lt_iff_toNat_lt, UInt64.lt_iff_toNat_lt, d8, n1, nM]; omega), m8, d8, w64_nat (a := v.toNat % 8) (by omega), w64_nat (a := v.toNat / 8) (by omega), w64_addN (by omega), lett_eq]
  by_cases h4 : v.toNat % 8 = 1
  · rw [bifTd (by omega), w64_id (x := (b.length : Int) - ((at_ + n : Nat) : Int)) (by omega) (by omega)]
    by_cases h5 : b.length - (at_ + n) < 8
    · have e : fieldS (b.drop at_) = (2, F0, 0) := by unfold fieldS; rw [hg, if_neg (by simp), if_neg h2, if_neg h3, if_pos h4, if_pos (by dsimp only; omega)]
      rw [bifTd (by omega), e]; rfl
    · have e : fieldS (b.drop at_) = (0, ⟨((v.toNat / 8 : Nat) : Int), 1, UInt64.ofNat (le8 (((b.drop at_).drop n).take 8)), []⟩, n + 8) := by unfold fieldS; rw [hg, if_neg (by simp), if_neg h2, if_neg h3, if_pos h4, if_neg (by dsimp only; omega)]; rfl
      have ed : (b.drop at_).drop n = b.drop (at_ + n) := by rw [List.drop_drop]
      rw [bifFd (by omega), Rfield_lp b (at_ + n) hl (by omega), flow_go, bind_some, show ((at_ + n : Nat) : Int) + 8 = ((at_ + n + 8 : Nat) : Int) by omega, w64_nat (by omega), lett_eq, flow_go]
      dsimp only
      rw [app_ok (by simp only [List.length_singleton]; omega), bind_some, flow_go, e, if_pos rfl, h4, ed]
      dsimp only
      rw [Nat.add_assoc]; rfl
  have edd : b.drop (at_ + n) = (b.drop at_).drop n := by rw [List.drop_drop]
  rw [bifFd (by omega), RGet_eq hl (by omega), bind_some, edd]
  by_cases h6 : (gv ((b.drop at_).drop n)).2.2 = 0
  case neg =>
    have e : fieldS (b.drop at_) = ((gv ((b.drop at_).drop n)).2.2, F0, 0) := by unfold fieldS; rw [hg, if_neg (by simp), if_neg h2, if_neg h3, if_neg h4]; dsimp only; rw [hn', if_pos h6]
    rw [bifT (by rw [Bool.not_eq_true', decide_eq_false_iff_not]; exact h6), e, if_neg h6]; rfl
  obtain ⟨m, k1, k2, k3, k4⟩ := gv_ok h6
  have hdl2 : ((b.drop at_).drop n).length = b.length - (at_ + n) := by rw [List.length_drop]; omega
  generalize hg2 : gv ((b.drop at_).drop n) = g2' at *
  obtain ⟨v2, n2', e2'⟩ := g2'
  simp only at h6 k1 k4
  subst h6; subst k1
  dsimp only
  have hm : ((m : Int)).toNat = m := by omega
  rw [bifF (by rfl), w64_addN (by omega), lett_eq]
  by_cases h7 : v.toNat % 8 = 0
  · have e : fieldS (b.drop at_) = (0, ⟨((v.toNat / 8 : Nat) : Int), 0, v2, []⟩, n + m) := by unfold fieldS; rw [hg, if_neg (by simp), if_neg h2, if_neg h3, if_neg h4]; dsimp only; rw [hn', hg2, if_neg (by simp), if_pos h7]; rfl
    rw [bifTd (by omega), flow_go]
    dsimp only
    rw [app_ok (by simp only [List.length_singleton]; omega), bind_some, flow_go, e, if_pos rfl, h7]
    dsimp only
    rw [Nat.add_assoc]; rfl
  rw [bifFd (by omega)]
  have e8 : (toU64 (w64 ((b.length : Int) - ((at_ + n + m : Nat) : Int)))).toNat = b.length - (at_ + n + m) := by
    rw [w64_subN (by omega) (by omega), toU64_nat (by omega)]
  by_cases h9 : b.length - (at_ + n + m) < v2.toNat
  · have e : fieldS (b.drop at_) = (2, F0, 0) := by unfold fieldS; rw [hg, if_neg (by simp), if_neg h2, if_neg h3, if_neg h4]; dsimp only; rw [hn', hg2, if_neg (by simp), if_neg h7, if_pos (by dsimp only; omega)]
    rw [bifTd (by rw [UInt64.lt_iff_toNat_lt, e8]; exact h9), e]; rfl
  · have e : fieldS (b.drop at_) = (0, ⟨((v.toNat / 8 : Nat) : Int), 2, 0, ((b.drop at_).drop (n + m)).take v2.toNat⟩, n + m + v2.toNat) := by unfold fieldS; rw [hg, if_neg (by simp), if_neg h2, if_neg h3, if_neg h4]; dsimp only; rw [hn', hg2, if_neg (by simp), if_neg h7, if_neg (by dsimp only; omega)]; rfl
    have ed : (b.take (at_ + n + m + v2.toNat)).drop (at_ + n + m) = ((b.drop at_).drop (n + m)).take v2.toNat := by
      rw [List.drop_drop, List.drop_take, Nat.add_assoc at_ n m]; congr 1; omega
    rw [bifFd (by rw [UInt64.lt_iff_toNat_lt, e8]; exact h9), w64_nat (a := v2.toNat) (by omega), w64_addN (by omega), slc_nat (by omega) (by omega), bind_some, ed, lett_eq, flow_go]
    dsimp only
    rw [app_ok (by simp only [List.length_singleton]; omega), bind_some, flow_go, e, if_pos rfl, show v.toNat % 8 = 2 by omega]
    dsimp only
    rw [Nat.add_assoc, Nat.add_assoc, Nat.add_assoc]; rfl
theorem Wdec_step {b : List UInt8} {at_ : Nat} (hl : b.length ≤ 100000000) (h : at_ < b.length) (l : List api_Fld) (hn : l.length ≤ 100000000) :
    wire_Decode_lp1 b (l, (at_ : Int)) = if (fieldS (b.drop at_)).1 = 0 then some (.next (l ++ [(fieldS (b.drop at_)).2.1], ((at_ + (fieldS (b.drop at_)).2.2 : Nat) : Int))) else some (.out ([], at_, (fieldS (b.drop at_)).1)) := by
  obtain ⟨f, nx, h1, h2⟩ := Wfield_eq hl (Nat.le_of_lt h)
  unfold wire_Decode_lp1
  dsimp only
  rw [bifTd (by omega), h1, bind_some]
  dsimp only
  by_cases h0 : (fieldS (b.drop at_)).1 = 0
  · obtain ⟨e1, e2⟩ := h2 h0
    rw [bifF (by rw [Bool.not_eq_false', decide_eq_true_eq]; exact h0), app_ok (by simp only [List.length_singleton]; omega), bind_some, if_pos h0, e1, e2]
  · rw [bifT (by rw [Bool.not_eq_true', decide_eq_false_iff_not]; exact h0), if_neg h0]; rfl
/-- both read alike; what they take has these very bytes -/
theorem decode_both {b : List UInt8} (hl : b.length ≤ 100000000) :
    (∃ L, wire_Decode b = some (L, 0, 0) ∧ ref30_Decode b = some ⟨L, 0, 0⟩ ∧ (∀ f ∈ L, FOk f) ∧ encL L = b ∧ L.length ≤ b.length) ∨ (∃ (a : Nat) (e : Int), e ≠ 0 ∧ wire_Decode b = some ([], (a : Int), e) ∧ ref30_Decode b = some ⟨[], (a : Int), e⟩) := by
  have key : ∀ (m at_ : Nat) (l : List api_Fld), at_ + m = b.length → (∀ f ∈ l, FOk f) → encL l = b.take at_ → l.length ≤ at_ →
      (∃ L, loop (wire_Decode_lp1 b) (l, (at_ : Int)) = some (.go L) ∧ loop (ref30_Decode_lp1 b) (l, (at_ : Int)) = some (.go L) ∧ (∀ f ∈ L, FOk f) ∧ encL L = b ∧ L.length ≤ b.length) ∨
      (∃ (a : Nat) (e : Int), e ≠ 0 ∧ loop (wire_Decode_lp1 b) (l, (at_ : Int)) = some (.out ([], a, e)) ∧ loop (ref30_Decode_lp1 b) (l, (at_ : Int)) = some (.out ⟨[], a, e⟩)) := by
    intro m
    induction m using Nat.strongRecOn with
    | _ m ih =>
      intro at_ l hm hf he hn
      by_cases h : at_ < b.length
      · have w1 := Wdec_step hl h l (by omega)
        have w2 := Rdec_step hl h l (by omega)
        by_cases h0 : (fieldS (b.drop at_)).1 = 0
        · rw [if_pos h0] at w1 w2
          have hd : (b.drop at_).length = b.length - at_ := List.length_drop
          obtain ⟨q1, q2, q3, q4⟩ := field_ok (l := b.drop at_) (by omega) h0
          rw [loop_next w1, loop_next w2]
          refine ih (m - (fieldS (b.drop at_)).2.2) (by omega) _ _ (by omega) ?_ ?_ (by simp only [List.length_append, List.length_singleton]; omega)
          · intro f hf'
            rcases List.mem_append.1 hf' with h | h
            · exact hf f h
            · rw [List.mem_singleton.1 h]; exact q1
          · rw [encL_snoc, he, q2, ← List.take_add]
        · rw [if_neg h0] at w1 w2
          exact .inr ⟨at_, _, h0, loop_out w1, loop_out w2⟩
      · have hb : at_ = b.length := by omega
        refine .inl ⟨l, loop_brk ?_, loop_brk ?_, hf, by rw [he, List.take_of_length_le (by omega)], by omega⟩
        · unfold wire_Decode_lp1
          dsimp only
          rw [bifFd (by omega)]
        · unfold ref30_Decode_lp1
          dsimp only
          rw [bifFd (by omega)]
  unfold wire_Decode ref30_Decode
  rcases key b.length 0 [] (by omega) (by simp) (by simp [encL]) (by simp) with ⟨L, k1, k2, k3⟩ | ⟨a, e, k0, k1, k2⟩
  · have k1' : loop (wire_Decode_lp1 b) ([], 0) = _ := k1
    have k2' : loop (ref30_Decode_lp1 b) ([], 0) = _ := k2
    rw [k1', k2']
    exact .inl ⟨L, rfl, rfl, k3⟩
  · have k1' : loop (wire_Decode_lp1 b) ([], 0) = _ := k1
    have k2' : loop (ref30_Decode_lp1 b) ([], 0) = _ := k2
    rw [k1', k2']
    exact .inr ⟨a, e, k0, rfl, rfl⟩
end Go.Lg
namespace Go.Lg
attribute [local irreducible] w64 toU64 toU8 shlU shrU shlB shrB
/-! ### the fields with a number -/
structure FewP (l : List api_Fld) : Prop where
  n : l.length ≤ 60
  b : ∀ (i : Nat) (h : i < l.length), (l[i]).B.length ≤ 300
def withN (l : List api_Fld) (n : Int) : List api_Fld := l.filter fun f => decide (f.Num = n)
theorem withN_snoc (l : List api_Fld) (f : api_Fld) (n : Int) : withN (l ++ [f]) n = withN l n ++ if f.Num = n then [f] else [] := by
  unfold withN
  rw [List.filter_append]
  congr 1
  by_cases h : f.Num = n
  · rw [if_pos h]; simp [h]
  · rw [if_neg h]; simp [h]
theorem withN_len (l : List api_Fld) (n : Int) : (withN l n).length ≤ l.length := List.length_filter_le _ _
/-! ### numbers one behind the other -/
def packL (l : List UInt64) : List UInt8 := l.flatMap fun v => varL v.toNat
theorem packL_snoc (l : List UInt64) (v : UInt64) : packL (l ++ [v]) = packL l ++ varL v.toNat := by simp [packL]
theorem Packed_eq {l : List UInt64} (hl : (packL l).length ≤ 100000000) (hn : l.length ≤ 100000000) : wire_Packed l = some (packL l) := by
  have key : ∀ (m i : Nat), i + m = l.length → loop (wire_Packed_lp1 l) (packL (l.take i), (i : Int)) = some (.go (packL l)) := by
    intro m
    induction m with
    | zero =>
      intro i hi
      refine loop_brk ?_
      unfold wire_Packed_lp1
      dsimp only
      rw [bifFd (by omega), List.take_of_length_le (by omega)]
    | succ m ih =>
      intro i hi
      have hlt : i < l.length := by omega
      have ht : l.take (i + 1) = l.take i ++ [l[i]] := by rw [List.take_add_one, List.getElem?_eq_getElem hlt]; rfl
      have hs : packL l = packL (l.take i) ++ varL l[i].toNat ++ packL (l.drop (i + 1)) := by
        rw [← packL_snoc, ← ht]
        unfold packL
        rw [← List.flatMap_append, List.take_append_drop]
      have hlen := congrArg List.length hs
      simp only [List.length_append] at hlen
      rw [← ih (i + 1) (by omega), ht, packL_snoc]
      refine loop_next ?_
      unfold wire_Packed_lp1
      dsimp only
      rw [bifTd (by omega), idx_nat hlt, bind_some, WVar_eq, bind_some, app_ok (by omega), bind_some, w64_succ (by omega)]
  have k0 : loop (wire_Packed_lp1 l) ([], 0) = _ := key l.length 0 (by omega)
  unfold wire_Packed
  rw [k0, flow_go]
theorem Unp_step {b : List UInt8} {at_ : Nat} (hl : b.length ≤ 100000000) (h : at_ < b.length) {l : List UInt64} (hn : l.length ≤ 100000000) :
    ((gv (b.drop at_)).2.2 ≠ 0 → wire_Unpacked_lp1 b (l, (at_ : Int)) = some (.out ([], (gv (b.drop at_)).2.2))) ∧
    (∀ n : Nat, (gv (b.drop at_)).2.2 = 0 → (gv (b.drop at_)).2.1 = n → at_ + n ≤ b.length → wire_Unpacked_lp1 b (l, (at_ : Int)) = some (.next (l ++ [(gv (b.drop at_)).1], ((at_ + n : Nat) : Int)))) := by
  constructor
  · intro h0
    unfold wire_Unpacked_lp1
    dsimp only
    rw [bifTd (by omega), WGet_eq hl (by omega), bind_some, bifT (by rw [Bool.not_eq_true', decide_eq_false_iff_not]; exact h0)]; rfl
  · intro n h0 h1 h2
    unfold wire_Unpacked_lp1
    dsimp only
    rw [bifTd (by omega), WGet_eq hl (by omega), bind_some, bifF (by rw [Bool.not_eq_false', decide_eq_true_eq]; exact h0), app_ok (by simp only [List.length_singleton]; omega), bind_some, h1, w64_addN (by omega), lett_eq]
theorem Unpacked_any {b : List UInt8} (hl : b.length ≤ 100000000) : (∃ w, wire_Unpacked b = some (w, 0) ∧ packL w = b ∧ w.length ≤ b.length) ∨ (∃ e, e ≠ 0 ∧ wire_Unpacked b = some ([], e)) := by
  have key : ∀ (m at_ : Nat) (l : List UInt64), at_ + m = b.length → packL l = b.take at_ → l.length ≤ at_ →
      (∃ w, loop (wire_Unpacked_lp1 b) (l, (at_ : Int)) = some (.go w) ∧ packL w = b ∧ w.length ≤ b.length) ∨ (∃ e, e ≠ 0 ∧ loop (wire_Unpacked_lp1 b) (l, (at_ : Int)) = some (.out ([], e))) := by
    intro m
    induction m using Nat.strongRecOn with
    | _ m ih =>
      intro at_ l hm he hn
      by_cases h : at_ < b.length
      · obtain ⟨s1, s2⟩ := Unp_step hl h (l := l) (by omega)
        by_cases h0 : (gv (b.drop at_)).2.2 = 0
        · obtain ⟨n, g1, g2, g3, g4⟩ := gv_ok h0
          have hd : (b.drop at_).length = b.length - at_ := List.length_drop
          rw [loop_next (s2 n h0 g1 (by omega))]
          refine ih (m - n) (by omega) _ _ (by omega) ?_ (by simp only [List.length_append, List.length_singleton]; omega)
          rw [packL_snoc, he, ← g4, ← List.take_add]
        · exact .inr ⟨_, h0, loop_out (s1 h0)⟩
      · refine .inl ⟨l, loop_brk ?_, by rw [he, List.take_of_length_le (by omega)], by omega⟩
        unfold wire_Unpacked_lp1
        dsimp only
        rw [bifFd (by omega)]
  unfold wire_Unpacked
  rcases key b.length 0 [] (by omega) (by simp [packL]) (by simp) with ⟨w, k1, k2⟩ | ⟨e, k0, k1⟩
  · have k1' : loop (wire_Unpacked_lp1 b) ([], 0) = _ := k1
    rw [k1']
    exact .inl ⟨w, rfl, k2⟩
  · have k1' : loop (wire_Unpacked_lp1 b) ([], 0) = _ := k1
    rw [k1']
    exact .inr ⟨e, k0, rfl⟩
theorem Unpacked_back {v : List UInt64} (hl : (packL v).length ≤ 100000000) (hn : v.length ≤ 100000000) : wire_Unpacked (packL v) = some (v, 0) := by
  have key : ∀ (m i : Nat), i + m = v.length → loop (wire_Unpacked_lp1 (packL v)) (v.take i, ((packL (v.take i)).length : Int)) = some (.go v) := by
    intro m
    induction m with
    | zero =>
      intro i hi
      have ht : v.take i = v := List.take_of_length_le (by omega)
      refine loop_brk ?_
      rw [ht]
      unfold wire_Unpacked_lp1
      dsimp only
      rw [bifFd (by omega)]
    | succ m ih =>
      intro i hi
      have hlt : i < v.length := by omega
      have ht : v.take (i + 1) = v.take i ++ [v[i]] := by rw [List.take_add_one, List.getElem?_eq_getElem hlt]; rfl
      have hs : packL v = packL (v.take i) ++ (varL v[i].toNat ++ packL (v.drop (i + 1))) := by
        rw [← List.append_assoc, ← packL_snoc, ← ht]
        unfold packL
        rw [← List.flatMap_append, List.take_append_drop]
      have hd : (packL v).drop (packL (v.take i)).length = varL v[i].toNat ++ packL (v.drop (i + 1)) := by
        rw [hs, List.drop_left]
      have hlen := congrArg List.length hs
      simp only [List.length_append] at hlen
      have hp := varL_pos v[i].toNat
      have hg := gv_var (UInt64.toNat_lt v[i]) (packL (v.drop (i + 1)))
      rw [← hd] at hg
      obtain ⟨_, s2⟩ := Unp_step hl (at_ := (packL (v.take i)).length) (by omega) (l := v.take i) (by rw [List.length_take]; omega)
      rw [hg] at s2
      have s3 := s2 (varL v[i].toNat).length rfl rfl (by omega)
      rw [loop_next s3, ← ih (i + 1) (by omega), ht, packL_snoc, List.length_append]
      have : UInt64.ofNat v[i].toNat = v[i] := UInt64.toNat_inj.1 (by rw [UInt64.toNat_ofNat']; have := UInt64.toNat_lt v[i]; omega)
      rw [this]
  have k0 : loop (wire_Unpacked_lp1 (packL v)) ([], 0) = _ := key v.length 0 (by omega)
  unfold wire_Unpacked
  rw [k0, flow_go]
theorem packL_len : ∀ l : List UInt64, (packL l).length ≤ 10 * l.length
  | [] => by simp [packL]
  | v :: l => by
    have := packL_len l
    have h := varL_len10 (UInt64.toNat_lt v)
    have e : packL (v :: l) = varL v.toNat ++ packL l := by simp [packL]
    rw [e, List.length_append, List.length_cons]; omega
end Go.Lg
namespace Go.Lg
attribute [local irreducible] w64 toU64 toU8 shlU shrU shlB shrB
theorem fix_eq (v : UInt64) : ref30_fix v = some (eightL v.toNat) := by
  have hv := UInt64.toNat_lt v
  unfold ref30_fix
  have L := loop_for (f := ref30_fix_lp1) (fun i => (UInt64.ofNat (v.toNat / 256 ^ i), (eightL v.toNat).take i, (i : Int))) 8 (b := eightL v.toNat) (fun i hi => by
    have hlt : i < (eightL v.toNat).length := by rw [eight_len]; exact hi
    have hd : v.toNat / 256 ^ i < 18446744073709551616 := Nat.lt_of_le_of_lt (Nat.div_le_self _ _) hv
    have e1 : (UInt64.ofNat (v.toNat / 256 ^ i) % 256).toUInt8 = (eightL v.toNat)[i] := by
      rw [eight_get hi]
      apply UInt8.toNat_inj.1
      rw [UInt64.toNat_toUInt8, UInt64.toNat_mod, UInt64.toNat_ofNat', UInt8.toNat_ofNat', show (256 : UInt64).toNat = 256 from rfl]
      omega
    have e2 : UInt64.ofNat (v.toNat / 256 ^ i) / 256 = UInt64.ofNat (v.toNat / 256 ^ (i + 1)) := by
      apply UInt64.toNat_inj.1
      rw [UInt64.toNat_div, UInt64.toNat_ofNat', UInt64.toNat_ofNat', show (256 : UInt64).toNat = 256 from rfl, Nat.mod_eq_of_lt hd, Nat.pow_succ, ← Nat.div_div_eq_div_mul]
      generalize v.toNat / 256 ^ i = x at *
      omega
    unfold ref30_fix_lp1
    dsimp only
    rw [bifTd (by omega), app_ok (by simp; omega), bind_some, lett_eq, lett_eq, w64_succ (by omega), e1, e2, take_snoc8 hlt]) (by
    unfold ref30_fix_lp1
    dsimp only
    rw [bifFd (by omega), List.take_of_length_le (by rw [eight_len]; omega)])
  have e0 : UInt64.ofNat (v.toNat / 256 ^ 0) = v := by
    apply UInt64.toNat_inj.1
    rw [UInt64.toNat_ofNat', Nat.pow_zero, Nat.div_one]; omega
  have L' : loop ref30_fix_lp1 (UInt64.ofNat (v.toNat / 256 ^ 0), [], 0) = some (.go (eightL v.toNat)) := L
  rw [e0] at L'
  rw [L', flow_go]
theorem REncode_step {l : List api_Fld} {i : Nat} (h : i < l.length) (hn : l.length ≤ 100000000) (hf : FOk l[i]) {out : List UInt8} (hl : out.length + (encF l[i]).length ≤ 100000000) :
    ref30_Encode_lp1 l (out, (i : Int)) = some (.next (out ++ encF l[i], ((i + 1 : Nat) : Int))) := by
  have t := hf.t; have a := hf.n1; have b := hf.n2
  have ht : (((toU64 l[i].Num) * 8) + (toU64 l[i].Type_)).toNat = (8 * l[i].Num + l[i].Type_).toNat := by
    rw [UInt64.toNat_add, UInt64.toNat_mul, toU64_val (by omega) (by omega), toU64_val (by omega) (by omega), n8]; omega
  have hE : encF l[i] = varL (8 * l[i].Num + l[i].Type_).toNat ++ (if l[i].Type_ = 0 then varL l[i].V.toNat else if l[i].Type_ = 1 then eightL l[i].V.toNat else varL l[i].B.length ++ l[i].B) := rfl
  have e3 : ((decide (l[i].Type_ = 2) && !decide (l[i].V = 0)) || (decide (l[i].Type_ < 2) && decide (0 < (l[i].B.length : Int)))) = false := by
    by_cases q : l[i].Type_ = 2
    · rw [decide_eq_true (hf.v q), decide_eq_false (p := l[i].Type_ < 2) (by omega)]; simp
    · rw [decide_eq_false q, hf.b q]; simp
  unfold ref30_Encode_lp1
  dsimp only
  rw [bifTd (by omega), idx_nat h, bind_some, bifF (by
    rw [decide_eq_false (p := l[i].Num < 1) (by omega), decide_eq_false (p := 536870911 < l[i].Num) (by omega)]; rfl), bifF (by
    rw [decide_eq_false (p := l[i].Type_ < 0) (by omega), decide_eq_false (p := 2 < l[i].Type_) (by omega)]; rfl), bifF e3, RVar_eq, ht, bind_some]
  rw [hE] at hl ⊢
  rw [List.length_append] at hl
  rw [app_ok (by omega), bind_some]
  by_cases t0 : l[i].Type_ = 0
  · rw [if_pos t0] at hl ⊢
    rw [bifTd t0, RVar_eq, bind_some, app_ok (by rw [List.length_append]; omega), bind_some, bind_some, bifFd (by omega), bind_some, bifFd (by omega), flow_go, lett_eq, w64_succ (by omega), List.append_assoc]
  · rw [if_neg t0] at hl ⊢
    rw [bifFd t0, bind_some]
    by_cases t1 : l[i].Type_ = 1
    · rw [if_pos t1] at hl ⊢
      rw [bifTd t1, fix_eq, bind_some, app_ok (by rw [List.length_append]; omega), bind_some, bind_some, bifFd (by omega), flow_go, lett_eq, w64_succ (by omega), List.append_assoc]
    · have t2 : l[i].Type_ = 2 := by omega
      rw [if_neg t1] at hl ⊢
      rw [List.length_append] at hl
      rw [bifFd t1, bind_some, bifTd t2, RVar_eq, toU64_nat (by omega), bind_some, app_ok (by rw [List.length_append]; omega), bind_some, app_ok (by rw [List.length_append, List.length_append]; omega), bind_some, flow_go, lett_eq, w64_succ (by omega), List.append_assoc, List.append_assoc]
/-- bytes that were written, read again -/
theorem le8_eight {v : Nat} (h : v < 18446744073709551616) : le8 (eightL v) = v := by
  have e : eightL v = [UInt8.ofNat (v / 256 ^ 0), UInt8.ofNat (v / 256 ^ 1), UInt8.ofNat (v / 256 ^ 2), UInt8.ofNat (v / 256 ^ 3), UInt8.ofNat (v / 256 ^ 4), UInt8.ofNat (v / 256 ^ 5), UInt8.ofNat (v / 256 ^ 6), UInt8.ofNat (v / 256 ^ 7)] := rfl
  rw [e]
  simp only [le8, UInt8.toNat_ofNat']
  omega
end Go.Lg
namespace Go.Lg
structure otlp_reader where
  e : Int
  out : List api_Point
  deriving DecidableEq
noncomputable def otlp_sub (a0 : Int) (a1 : List api_Fld) : Option api_Fld :=
 (wire_Encode a1).bind fun (r18, r19) =>
 some (api_Fld.mk a0 2 0 r18)
noncomputable def otlp_num (a0 : Int) (a1 : UInt64) : Option api_Fld :=
 some (api_Fld.mk a0 0 a1 [])
noncomputable def otlp_text (a0 : Int) (a1 : List UInt8) : Option api_Fld :=
 some (api_Fld.mk a0 2 0 a1)
noncomputable def otlp_fix (a0 : Int) (a1 : UInt64) : Option api_Fld :=
 some (api_Fld.mk a0 1 a1 [])
noncomputable def otlp_side (a0 : Int) (a1 : api_Side) : Option (List api_Fld) :=
 bif decide ((a1.Counts.length : Int) = 0) then
 some []
 else
 (pack_Zig a1.Offset).bind fun r45 =>
 (otlp_num 1 r45).bind fun r54 =>
 (wire_Packed a1.Counts).bind fun r69 =>
 (otlp_sub a0 [r54, (api_Fld.mk 2 2 0 r69)]).bind fun r104 =>
 some [r104]
noncomputable def otlp_fields_lp1 (r197 : List api_Pair) : (List api_Fld × Int) → Option (Rnd (List api_Fld × Int) (List api_Fld) (List api_Fld)) := fun (l217, x220) =>
 bif decide (x220 < (r197.length : Int)) then
 (idx r197 x220).bind fun e241 =>
 (otlp_text 1 e241.Key).bind fun r281 =>
 (otlp_text 2 e241.Val).bind fun r293 =>
 (otlp_sub 7 [r281, r293]).bind fun r321 =>
 (app l217 [r321]).bind fun xs346 =>
 some (.next (xs346, w64 (x220 + 1)))
 else
 some (.brk l217)
noncomputable def otlp_fields (a0 : api_Point) : Option (List api_Fld) :=
 (otlp_fix 2 (toU64 a0.Start)).bind fun r55 =>
 (otlp_fix 3 (toU64 a0.Time)).bind fun r67 =>
 (lett (decide (a0.Kind = 1)) fun t110 =>
 bif t110 then
 (otlp_fix 6 (toU64 a0.Int_)).bind fun r112 =>
 (app [r55, r67] [r112]).bind fun xs134 =>
 some xs134
 else
 (lett (decide (a0.Kind = 2)) fun t148 =>
 bif t148 then
 some t148
 else
 lett (decide (a0.Kind = 3)) fun t150 =>
 bif t150 then
 some t150
 else
 lett (decide (a0.Kind = 5)) fun t152 =>
 some t152 : Option Bool).bind fun x145 =>
 bif x145 then
 (otlp_fix 4 a0.Re).bind fun r154 =>
 (app [r55, r67] [r154]).bind fun xs176 =>
 some xs176
 else
 some [r55, r67] : Option (List api_Fld)).bind fun l102 =>
 (label_Sorted a0.Attrs).bind fun r197 =>
 (flow (loop (otlp_fields_lp1 r197) (l102, 0)) fun l224 =>
 some l224 : Option (List api_Fld)).bind fun l209 =>
 lett (decide (a0.Kind = 5)) fun t372 =>
 bif t372 then
 (otlp_fix 31 a0.Im).bind fun r374 =>
 (app l209 [r374]).bind fun xs396 =>
 some xs396
 else
 lett (decide (a0.Kind = 4)) fun t409 =>
 bif t409 then
 (pack_Zig a0.Hist.Scale).bind fun r438 =>
 (otlp_num 8 r438).bind fun r447 =>
 (otlp_num 9 a0.Hist.Zero).bind fun r459 =>
 (app l209 [r447, r459]).bind fun xs487 =>
 (otlp_side 10 a0.Hist.Pos).bind fun r521 =>
 (app xs487 r521).bind fun xs533 =>
 (otlp_side 11 a0.Hist.Neg).bind fun r559 =>
 (app xs533 r559).bind fun xs571 =>
 some xs571
 else
 some l209
noncomputable def otlp_data (a0 : Int) : Option Int :=
 lett (decide (a0 = 3)) fun t11 =>
 bif t11 then
 some 5
 else
 lett (decide (a0 = 4)) fun t14 =>
 bif t14 then
 some 10
 else
 lett (decide (a0 = 5)) fun t17 =>
 bif t17 then
 some 30
 else
 some 7
noncomputable def otlp_metric (a0 : api_Point) : Option api_Fld :=
 (otlp_fields a0).bind fun r43 =>
 (otlp_sub 1 r43).bind fun r55 =>
 (bif (!decide (a0.Temp = 0)) then
 (otlp_num 2 (toU64 (w64 (3 - a0.Temp)))).bind fun r93 =>
 (app [r55] [r93]).bind fun xs115 =>
 some xs115
 else
 some [r55] : Option (List api_Fld)).bind fun d80 =>
 (bif a0.Mono then
 (otlp_num 3 (1 : UInt64)).bind fun r143 =>
 (app d80 [r143]).bind fun xs165 =>
 some xs165
 else
 some d80 : Option (List api_Fld)).bind fun d129 =>
 (otlp_text 1 a0.Name).bind fun r212 =>
 (otlp_data a0.Kind).bind fun r224 =>
 (otlp_sub r224 d129).bind fun r236 =>
 (otlp_sub 2 [r212, r236]).bind fun r269 =>
 some r269
noncomputable def otlp_Encode_lp1 (a0 : List api_Point) : (List api_Fld × Int) → Option (Rnd (List api_Fld × Int) (List api_Fld) (Flow (List api_Fld) (List UInt8 × Int))) := fun (group20, x23) =>
 bif decide (x23 < (a0.length : Int)) then
 flow ((idx a0 x23).bind fun e48 =>
 (point_Check e48).bind fun r93 =>
 (bif ((decide (r93 = 0)) && (!decide (e48.Flags = 0))) then
 some 3
 else
 some r93 : Option Int).bind fun e102 =>
 bif (!decide (e102 = 0)) then
 outs (outr (outs (some ([], e102))))
 else
 (otlp_metric e48).bind fun r114 =>
 (app group20 [r114]).bind fun xs139 =>
 some (.go xs139) : Option (Flow (List api_Fld) (Rnd (List api_Fld × Int) (List api_Fld) (Flow (List api_Fld) (List UInt8 × Int))))) fun group40 =>
 some (.next (group40, w64 (x23 + 1)))
 else
 some (.brk group20)
noncomputable def otlp_Encode (a0 : List api_Point) : Option (List UInt8 × Int) :=
 flow (flow (loop (otlp_Encode_lp1 a0) ([], 0)) fun group27 =>
 some (.go group27) : Option (Flow (List api_Fld) (List UInt8 × Int))) fun group12 =>
 bif decide ((group12.length : Int) = 0) then
 some ([], 0)
 else
 (otlp_sub 1 group12).bind fun r165 =>
 (wire_Encode [r165]).bind fun (r190, r191) =>
 some (r190, r191)
noncomputable def otlp_reader_fail (a0 : otlp_reader) (a1 : Bool) (a2 : Int) : Option otlp_reader :=
 bif (a1 && (decide (a0.e = 0))) then
 some (otlp_reader.mk a2 a0.out)
 else
 some a0
noncomputable def otlp_reader_open_lp1 (a0 : otlp_reader) (a2 : List (Int × Int)) (r16 : List api_Fld) : (Int × Int) → Option (Rnd (Int × Int) Int Int) := fun (c51, x52) =>
 bif decide (x52 < (r16.length : Int)) then
 (idx r16 x52).bind fun e68 =>
 lett (((mget a2 e68.Num).getD 0)) fun t101 =>
 lett ((mget a2 e68.Num).isSome) fun told102 =>
 (otlp_reader_fail (otlp_reader.mk c51 a0.out) (told102 && (!decide (t101 = e68.Type_))) 14).bind fun r106 =>
 some (.next (r106.e, w64 (x52 + 1)))
 else
 some (.brk c51)
noncomputable def otlp_reader_open (a0 : otlp_reader) (a1 : List UInt8) (a2 : List (Int × Int)) : Option (List api_Fld × otlp_reader) :=
 bif (!decide (a0.e = 0)) then
 some ([], a0)
 else
 (wire_Decode a1).bind fun (r16, r17, r18) =>
 (otlp_reader_fail a0 (!decide (r18 = 0)) r18).bind fun r31 =>
 (flow (loop (otlp_reader_open_lp1 a0 a2 r16) (r31.e, 0)) fun c57 =>
 some c57 : Option Int).bind fun c44 =>
 bif (!decide (c44 = 0)) then
 some ([], (otlp_reader.mk c44 a0.out))
 else
 some (r16, (otlp_reader.mk c44 a0.out))
noncomputable def otlp_last (a0 : List api_Fld) (a1 : Int) : Option api_Fld :=
 (wire_Last a0 a1).bind fun (r18, r19) =>
 some r18
noncomputable def otlp_reader_attrs_lp1 (a0 : otlp_reader) (a1 : List api_Fld) : (Int × List api_Pair × Int) → Option (Rnd (Int × List api_Pair × Int) (Int × List api_Pair) (List api_Pair × otlp_reader)) := fun (c14, out15, x18) =>
 bif decide (x18 < (a1.length : Int)) then
 (idx a1 x18).bind fun e37 =>
 (otlp_reader_open (otlp_reader.mk c14 a0.out) e37.B [(1, 2), (2, 2)]).bind fun (r85, r86) =>
 (otlp_last r85 1).bind fun r112 =>
 ((otlp_last r85 2).bind fun r136 =>
 some r136.B).bind fun x124 =>
 (app out15 [(api_Pair.mk r112.B x124)]).bind fun xs194 =>
 some (.next (r86.e, xs194, w64 (x18 + 1)))
 else
 some (.brk (c14, out15))
noncomputable def otlp_reader_attrs (a0 : otlp_reader) (a1 : List api_Fld) : Option (List api_Pair × otlp_reader) :=
 flow (loop (otlp_reader_attrs_lp1 a0 a1) (a0.e, [], 0)) fun (c23, out24) =>
 some (out24, (otlp_reader.mk c23 a0.out))
noncomputable def slices_Index_int_int_lp1 (a0 : List Int) (a1 : Int) : Int → Option (Rnd Int Unit Int) := fun x12 =>
 bif decide (x12 < (a0.length : Int)) then
 (idx a0 x12).bind fun e20 =>
 bif decide (a1 = e20) then
 outr (some x12)
 else
 some (.next (w64 (x12 + 1)))
 else
 some (.brk ())
noncomputable def slices_Index_int_int (a0 : List Int) (a1 : Int) : Option Int :=
 flow (loop (slices_Index_int_int_lp1 a0 a1) 0) fun (_ : Unit) =>
 some (-1)
noncomputable def slices_Contains_int_int (a0 : List Int) (a1 : Int) : Option Bool :=
 (slices_Index_int_int a0 a1).bind fun r12 =>
 lett (decide (0 ≤ r12)) fun t21 =>
 some t21
noncomputable def otlp_has_lp1 (a0 : List api_Fld) (a1 : List Int) : Int → Option (Rnd Int Unit Int) := fun x35 =>
 bif decide (x35 < (a0.length : Int)) then
 (idx a0 x35).bind fun e49 =>
 ((slices_Contains_int_int a1 e49.Num).bind fun r84 =>
 some r84 : Option Bool).bind fun x64 =>
 bif x64 then
 outr (some x35)
 else
 some (.next (w64 (x35 + 1)))
 else
 some (.brk ())
noncomputable def otlp_has (a0 : List api_Fld) (a1 : List Int) : Option Bool :=
 ((flow (loop (otlp_has_lp1 a0 a1) 0) fun (_ : Unit) =>
 some (-1) : Option Int).bind fun x28 =>
 lett (decide (0 ≤ x28)) fun t94 =>
 some t94 : Option Bool).bind fun x22 =>
 some x22
noncomputable def otlp_form (a0 : List api_Fld) (a1 : Int) : Option Bool :=
 (wire_All a0 4).bind fun r12 =>
 (wire_All a0 6).bind fun r25 =>
 lett ((r12.length : Int)) fun four37 =>
 lett ((r25.length : Int)) fun six38 =>
 lett (((decide (a1 = 2)) && (!decide (w64 (four37 + six38) = 1)))) fun t40 =>
 bif t40 then
 bif t40 then
 some false
 else
 some true
 else
 lett (((!decide (a1 = 2)) && (decide (0 < six38)))) fun t46 =>
 bif t46 then
 bif t46 then
 some false
 else
 some true
 else
 (bif (!decide (a1 = 5)) then
 (otlp_has a0 [31]).bind fun r65 =>
 some r65
 else
 some false : Option Bool).bind fun x51 =>
 bif x51 then
 bif x51 then
 some false
 else
 some true
 else
 (bif (!decide (a1 = 4)) then
 (otlp_has a0 [8, 9, 10, 11]).bind fun r93 =>
 some r93
 else
 some false : Option Bool).bind fun x78 =>
 bif x78 then
 bif x78 then
 some false
 else
 some true
 else
 lett (((decide (a1 = 4)) && (decide (0 < four37)))) fun t107 =>
 bif t107 then
 some false
 else
 some true
def slices_Grow_api_Pair_api_Pair (a1 : Int) : Option (List api_Pair) := bif decide (0 ≤ a1) && decide (a1 ≤ 17179869184) then some [] else none
noncomputable def slices_Concat_api_Pair_api_Pair_lp1 (a0 : List (List api_Pair)) : (Int × Int) → Option (Rnd (Int × Int) Int Int) := fun (size15, x16) =>
 bif decide (x16 < (a0.length : Int)) then
 ((idx a0 x16).bind fun e28 =>
 lett (w64 (size15 + (e28.length : Int))) fun size42 =>
 bif decide (size42 < 0) then
 none
 else
 some size42 : Option Int).bind fun size25 =>
 some (.next (size25, w64 (x16 + 1)))
 else
 some (.brk size15)
noncomputable def slices_Concat_api_Pair_api_Pair_lp2 (a0 : List (List api_Pair)) : (List api_Pair × Int) → Option (Rnd (List api_Pair × Int) (List api_Pair) (List api_Pair)) := fun (newslice57, x60) =>
 bif decide (x60 < (a0.length : Int)) then
 (idx a0 x60).bind fun e80 =>
 (app newslice57 e80).bind fun xs95 =>
 some (.next (xs95, w64 (x60 + 1)))
 else
 some (.brk newslice57)
noncomputable def slices_Concat_api_Pair_api_Pair (a0 : List (List api_Pair)) : Option (List api_Pair) :=
 (flow (loop (slices_Concat_api_Pair_api_Pair_lp1 a0) (0, 0)) fun size17 =>
 some size17 : Option Int).bind fun size12 =>
 (slices_Grow_api_Pair_api_Pair size12).bind fun r44 =>
 flow (loop (slices_Concat_api_Pair_api_Pair_lp2 a0) (r44, 0)) fun newslice64 =>
 some newslice64
noncomputable def otlp_reader_wide (a0 : otlp_reader) (a1 : UInt64) : Option (Int × otlp_reader) :=
 (pack_Zag a1).bind fun r12 =>
 (otlp_reader_fail a0 ((decide (1099511627776 < r12)) || (decide (r12 < (-1099511627776)))) 4).bind fun r23 =>
 some (r12, (otlp_reader.mk r23.e a0.out))
noncomputable def otlp_reader_side (a0 : otlp_reader) (a1 : List UInt8) : Option (api_Side × otlp_reader) :=
 (otlp_reader_open a0 a1 [(1, 0), (2, 2)]).bind fun (r37, r38) =>
 (otlp_last r37 1).bind fun r52 =>
 (otlp_reader_wide (otlp_reader.mk r38.e a0.out) r52.V).bind fun (r65, r66) =>
 (otlp_last r37 2).bind fun r89 =>
 (wire_Unpacked r89.B).bind fun (r101, r102) =>
 (otlp_reader_fail (otlp_reader.mk r66.e a0.out) (!decide (r102 = 0)) r102).bind fun r118 =>
 some ((api_Side.mk r65 r101), (otlp_reader.mk r118.e a0.out))
noncomputable def otlp_Decode_lp3 (r331 : List api_Fld) : (List api_Fld × Int) → Option (Rnd (List api_Fld × Int) (List api_Fld) (List api_Fld)) := fun (found359, x362) =>
 bif decide (x362 < ([5, 7, 10, 30].length : Int)) then
 (idx [5, 7, 10, 30] x362).bind fun e379 =>
 (wire_All r331 e379).bind fun r392 =>
 (app found359 r392).bind fun xs404 =>
 some (.next (xs404, w64 (x362 + 1)))
 else
 some (.brk found359)
noncomputable def otlp_Decode_lp4 (shared212 : List api_Pair) (kind496 : Int) (r564 : api_Fld) (r606 : api_Fld) (c657 : Int) (r674 : List api_Fld) : (Int × List api_Point × Int) → Option (Rnd (Int × List api_Point × Int) (Int × List api_Point) (Int × List api_Point × List api_Pair)) := fun (c687, c688, x691) =>
 bif decide (x691 < (r674.length : Int)) then
 (idx r674 x691).bind fun e749 =>
 ((otlp_reader_open (otlp_reader.mk c687 c688) e749.B [(2, 1), (3, 1), (4, 1), (6, 1), (7, 2), (8, 0), (9, 0), (10, 2), (11, 2), (31, 1)]).bind fun (r858, r859) =>
 (otlp_form r858 kind496).bind fun r885 =>
 (otlp_reader_fail (otlp_reader.mk r859.e c688) (!r885) 3).bind fun r895 =>
 (otlp_last r858 2).bind fun r908 =>
 (otlp_last r858 3).bind fun r921 =>
 (otlp_reader_fail (otlp_reader.mk r895.e c688) ((decide (9007199254740992 < r908.V)) || (decide (9007199254740992 < r921.V))) 4).bind fun r936 =>
 bif (!decide (r936.e = 0)) then
 some (r936.e, c688)
 else
 lett (w64 (r908.V.toNat : Int)) fun t972 =>
 lett (w64 (r921.V.toNat : Int)) fun t981 =>
 (wire_All r858 7).bind fun r1006 =>
 (otlp_reader_attrs (otlp_reader.mk r936.e c688) r1006).bind fun (r1022, r1023) =>
 (slices_Concat_api_Pair_api_Pair [shared212, r1022]).bind fun r1082 =>
 (label_Sorted r1082).bind fun r1094 =>
 ((otlp_has r858 [6]).bind fun r1144 =>
 bif r1144 then
 (otlp_last r858 6).bind fun r1155 =>
 lett (w64 (r1155.V.toNat : Int)) fun t1173 =>
 some (1, t1173)
 else
 some (kind496, 0) : Option (Int × Int)).bind fun (c1124, c1125) =>
 (otlp_last r858 4).bind fun r1187 =>
 (otlp_last r858 31).bind fun r1200 =>
 (bif decide (c1124 = 4) then
 (otlp_last r858 8).bind fun r1242 =>
 (otlp_reader_wide (otlp_reader.mk r1023.e c688) r1242.V).bind fun (r1265, r1266) =>
 (otlp_last r858 9).bind fun r1279 =>
 (otlp_last r858 10).bind fun r1303 =>
 (otlp_reader_side (otlp_reader.mk r1266.e c688) r1303.B).bind fun (r1319, r1320) =>
 (otlp_last r858 11).bind fun r1346 =>
 (otlp_reader_side (otlp_reader.mk r1320.e c688) r1346.B).bind fun (r1360, r1361) =>
 some (r1361.e, r1265, r1279.V, r1319.Offset, r1319.Counts, r1360.Offset, r1360.Counts)
 else
 some (r1023.e, 0, 0, 0, [], 0, []) : Option (Int × Int × UInt64 × Int × List UInt64 × Int × List UInt64)).bind fun (c1221, c1223, c1224, c1225, c1226, c1229, c1230) =>
 (bif decide (c1221 = 0) then
 (point_Check (api_Point.mk r606.B r1094 c1124 c657 (decide (r564.V = 1)) t972 t981 c1125 r1187.V r1200.V (api_Hist.mk c1223 c1224 (api_Side.mk c1225 c1226) (api_Side.mk c1229 c1230)) 0)).bind fun r1427 =>
 (otlp_reader_fail (otlp_reader.mk c1221 c688) (!decide (r1427 = 0)) r1427).bind fun r1437 =>
 some r1437.e
 else
 some c1221 : Option Int).bind fun c1413 =>
 bif decide (c1413 = 0) then
 (app c688 [(api_Point.mk r606.B r1094 c1124 c657 (decide (r564.V = 1)) t972 t981 c1125 r1187.V r1200.V (api_Hist.mk c1223 c1224 (api_Side.mk c1225 c1226) (api_Side.mk c1229 c1230)) 0)]).bind fun xs1518 =>
 some (c1413, xs1518)
 else
 some (c1413, c688) : Option (Int × List api_Point)).bind fun (c782, c783) =>
 some (.next (c782, c783, w64 (x691 + 1)))
 else
 some (.brk (c687, c688))
noncomputable def otlp_Decode_lp2 (r185 : List api_Fld) : (Int × List api_Point × List api_Pair × Int) → Option (Rnd (Int × List api_Point × List api_Pair × Int) (Int × List api_Point) (Int × List api_Point)) := fun (c208, c209, shared212, x215) =>
 bif decide (x215 < (r185.length : Int)) then
 (idx r185 x215).bind fun e255 =>
 ((otlp_reader_open (otlp_reader.mk c208 c209) e255.B [(1, 2), (5, 2), (7, 2), (10, 2), (30, 2)]).bind fun (r331, r332) =>
 (flow (loop (otlp_Decode_lp3 r331) ([], 0)) fun found366 =>
 some found366 : Option (List api_Fld)).bind fun found351 =>
 (otlp_reader_fail (otlp_reader.mk r332.e c209) (!decide ((found351.length : Int) = 1)) 3).bind fun r420 =>
 bif (!decide (r420.e = 0)) then
 some (r420.e, c209, shared212)
 else
 (idx found351 0).bind fun e478 =>
 lett (((mget [(5, 3), (7, 2), (10, 4), (30, 5)] e478.Num).getD 0)) fun kind496 =>
 (idx found351 0).bind fun e497 =>
 (otlp_reader_open (otlp_reader.mk r420.e c209) e497.B [(1, 2), (2, 0), (3, 0)]).bind fun (r536, r537) =>
 (otlp_last r536 2).bind fun r551 =>
 (otlp_last r536 3).bind fun r564 =>
 (otlp_reader_fail (otlp_reader.mk r537.e c209) ((decide (2 < r551.V)) || (decide (1 < r564.V))) 3).bind fun r579 =>
 (otlp_last r331 1).bind fun r606 =>
 (bif decide (0 < r551.V) then
 lett (w64 (((3 : UInt64) - (minU r551.V (2 : UInt64))).toNat : Int)) fun t664 =>
 some t664
 else
 some 0 : Option Int).bind fun c657 =>
 (wire_All r536 1).bind fun r674 =>
 flow (loop (otlp_Decode_lp4 shared212 kind496 r564 r606 c657 r674) (r579.e, c209, 0)) fun (c696, c697) =>
 some (c696, c697, shared212) : Option (Int × List api_Point × List api_Pair)).bind fun (c284, c285, shared288) =>
 some (.next (c284, c285, shared288, w64 (x215 + 1)))
 else
 some (.brk (c208, c209))
noncomputable def otlp_Decode_lp1 (r45 : List api_Fld) : (Int × List api_Point × Int) → Option (Rnd (Int × List api_Point × Int) (Int × List api_Point) (Int × List api_Point)) := fun (c68, c69, x72) =>
 bif decide (x72 < (r45.length : Int)) then
 (idx r45 x72).bind fun e92 =>
 (otlp_reader_open (otlp_reader.mk c68 c69) e92.B [(1, 2), (2, 2)]).bind fun (r140, r141) =>
 (wire_All r140 1).bind fun r155 =>
 (otlp_reader_attrs (otlp_reader.mk r141.e c69) r155).bind fun (r168, r169) =>
 (wire_All r140 2).bind fun r185 =>
 (flow (loop (otlp_Decode_lp2 r185) (r169.e, c69, r168, 0)) fun (c220, c221) =>
 some (c220, c221) : Option (Int × List api_Point)).bind fun (c198, c199) =>
 some (.next (c198, c199, w64 (x72 + 1)))
 else
 some (.brk (c68, c69))
noncomputable def otlp_Decode (a0 : List UInt8) : Option (List api_Point × Int) :=
 (otlp_reader_open (otlp_reader.mk 0 []) a0 [(1, 2)]).bind fun (r30, r31) =>
 (wire_All r30 1).bind fun r45 =>
 (flow (loop (otlp_Decode_lp1 r45) (r31.e, [], 0)) fun (c77, c78) =>
 some (c77, c78) : Option (Int × List api_Point)).bind fun (c58, c59) =>
 bif (!decide (c58 = 0)) then
 some ([], c58)
 else
 some (c59, 0)
noncomputable def law31_awake  : Option Bool :=
 (otlp_Encode [(api_Point.mk [120] [(api_Pair.mk [97] [49])] 1 2 false 0 10 (-5) 0 0 (api_Hist.mk 0 0 (api_Side.mk 0 []) (api_Side.mk 0 [])) 0), (api_Point.mk [120] [(api_Pair.mk [97] [49])] 1 2 false 0 10 (-5) 0 0 (api_Hist.mk 0 0 (api_Side.mk 0 []) (api_Side.mk 0 [])) 0)]).bind fun (r40, r41) =>
 (otlp_Decode r40).bind fun (r53, r54) =>
 (otlp_Decode []).bind fun (r66, r67) =>
 (otlp_Encode [(api_Point.mk [120] [(api_Pair.mk [97] [49])] 1 2 false 0 10 (-5) 0 0 (api_Hist.mk 0 0 (api_Side.mk 0 []) (api_Side.mk 0 [])) 1)]).bind fun (r98, r99) =>
 (bif (((decide (r41 = 0)) && (decide (r54 = 0))) && (decide ((r53.length : Int) = 2))) then
 (idx r53 1).bind fun e121 =>
 some (decide (e121.Int_ = (-5)))
 else
 some false : Option Bool).bind fun x117 =>
 (bif x117 then
 (idx r53 1).bind fun e147 =>
 (idx e147.Attrs 0).bind fun e169 =>
 some (decide (e169.Val = [49]))
 else
 some false : Option Bool).bind fun x143 =>
 lett ((((x143 && (decide ((r66.length : Int) = 0))) && (decide (r67 = 0))) && (decide (r99 = 3)))) fun t187 =>
 some t187
noncomputable def ref31_sub (a0 : Int) (a1 : List api_Fld) : Option api_Fld :=
 (ref30_Encode a1).bind fun (r18, r19) =>
 some (api_Fld.mk a0 2 0 r18)
noncomputable def ref31_packed_lp1 (a0 : List UInt64) : (List UInt8 × Int) → Option (Rnd (List UInt8 × Int) (List UInt8) (List UInt8)) := fun (out12, i15) =>
 bif decide (i15 < (a0.length : Int)) then
 (idx a0 i15).bind fun e33 =>
 (ref30_Var e33).bind fun r45 =>
 (app out12 r45).bind fun xs57 =>
 lett (w64 (i15 + 1)) fun i64 =>
 some (.next (xs57, i64))
 else
 some (.brk out12)
noncomputable def ref31_packed (a0 : List UInt64) : Option (List UInt8) :=
 flow (loop (ref31_packed_lp1 a0) ([], 0)) fun out19 =>
 some out19
noncomputable def ref31_side (a0 : api_Side) : Option (List api_Fld) :=
 (ref02_Zig a0.Offset).bind fun r39 =>
 (ref31_packed a0.Counts).bind fun r54 =>
 some [(api_Fld.mk 1 0 r39 []), (api_Fld.mk 2 2 0 r54)]
noncomputable def ref31_fields_lp1 (r102 : List api_Pair) : (List api_Fld × Int) → Option (Rnd (List api_Fld × Int) (List api_Fld) (List api_Fld)) := fun (l122, i125) =>
 bif decide (i125 < (r102.length : Int)) then
 (idx r102 i125).bind fun e158 =>
 (idx r102 i125).bind fun e185 =>
 (some (e158.Key, e185.Val)).bind fun (x205, x208) =>
 (ref31_sub 7 [(api_Fld.mk 1 2 0 x205), (api_Fld.mk 2 2 0 x208)]).bind fun r282 =>
 (app l122 [r282]).bind fun xs304 =>
 lett (w64 (i125 + 1)) fun i318 =>
 some (.next (xs304, i318))
 else
 some (.brk l122)
noncomputable def ref31_fields (a0 : api_Point) : Option (List api_Fld) :=
 (bif (((decide (a0.Kind = 2)) || (decide (a0.Kind = 3))) || (decide (a0.Kind = 5))) then
 (app [(api_Fld.mk 2 1 (toU64 a0.Start) []), (api_Fld.mk 3 1 (toU64 a0.Time) [])] [(api_Fld.mk 4 1 a0.Re [])]).bind fun xs53 =>
 some xs53
 else
 some [(api_Fld.mk 2 1 (toU64 a0.Start) []), (api_Fld.mk 3 1 (toU64 a0.Time) [])] : Option (List api_Fld)).bind fun l36 =>
 (bif decide (a0.Kind = 1) then
 (app l36 [(api_Fld.mk 6 1 (toU64 a0.Int_) [])]).bind fun xs82 =>
 some xs82
 else
 some l36 : Option (List api_Fld)).bind fun l66 =>
 (ref11_Sorted a0.Attrs).bind fun r102 =>
 (flow (loop (ref31_fields_lp1 r102) (l66, 0)) fun l129 =>
 some l129 : Option (List api_Fld)).bind fun l114 =>
 (bif decide (a0.Kind = 4) then
 (ref02_Zig a0.Hist.Scale).bind fun r336 =>
 (app l114 [(api_Fld.mk 8 0 r336 [])]).bind fun xs350 =>
 (app xs350 [(api_Fld.mk 9 0 a0.Hist.Zero [])]).bind fun xs366 =>
 (bif decide (0 < (a0.Hist.Pos.Counts.length : Int)) then
 (ref31_side a0.Hist.Pos).bind fun r395 =>
 (ref31_sub 10 r395).bind fun r407 =>
 (app xs366 [r407]).bind fun xs429 =>
 some xs429
 else
 some xs366 : Option (List api_Fld)).bind fun l373 =>
 bif decide (0 < (a0.Hist.Neg.Counts.length : Int)) then
 (ref31_side a0.Hist.Neg).bind fun r460 =>
 (ref31_sub 11 r460).bind fun r472 =>
 (app l373 [r472]).bind fun xs494 =>
 some xs494
 else
 some l373
 else
 some l114 : Option (List api_Fld)).bind fun l325 =>
 bif decide (a0.Kind = 5) then
 (app l325 [(api_Fld.mk 31 1 a0.Im [])]).bind fun xs521 =>
 some xs521
 else
 some l325
noncomputable def ref31_field (a0 : Int) : Option Int :=
 (idx [0, 7, 7, 5, 10, 30] a0).bind fun e16 =>
 some e16
noncomputable def ref31_Encode_lp1 (a0 : List api_Point) : (List api_Fld × Int) → Option (Rnd (List api_Fld × Int) (List api_Fld) (Flow (List api_Fld) (List UInt8 × Int))) := fun (group20, i23) =>
 bif decide (i23 < (a0.length : Int)) then
 flow ((idx a0 i23).bind fun e49 =>
 (ref12_Check e49).bind fun r93 =>
 bif (!decide (r93 = 0)) then
 outs (outr (outs (some ([], r93))))
 else
 bif (!decide (e49.Flags = 0)) then
 outs (outr (outs (some ([], 3))))
 else
 (ref31_fields e49).bind fun r110 =>
 (ref31_sub 1 r110).bind fun r122 =>
 (bif decide (e49.Temp = 1) then
 (app [r122] [(api_Fld.mk 2 0 2 [])]).bind fun xs161 =>
 some xs161
 else
 some [r122] : Option (List api_Fld)).bind fun d144 =>
 (bif decide (e49.Temp = 2) then
 (app d144 [(api_Fld.mk 2 0 1 [])]).bind fun xs192 =>
 some xs192
 else
 some d144 : Option (List api_Fld)).bind fun d174 =>
 (bif e49.Mono then
 (app d174 [(api_Fld.mk 3 0 1 [])]).bind fun xs224 =>
 some xs224
 else
 some d174 : Option (List api_Fld)).bind fun d205 =>
 ((ref31_field e49.Kind).bind fun r300 =>
 (ref31_sub r300 d205).bind fun r312 =>
 some (e49.Name, r312.Num, r312.Type_, r312.V, r312.B)).bind fun (x273, x276, x277, x278, x279) =>
 (ref31_sub 2 [(api_Fld.mk 1 2 0 x273), (api_Fld.mk x276 x277 x278 x279)]).bind fun r420 =>
 (app group20 [r420]).bind fun xs442 =>
 some (.go xs442) : Option (Flow (List api_Fld) (Rnd (List api_Fld × Int) (List api_Fld) (Flow (List api_Fld) (List UInt8 × Int))))) fun group41 =>
 lett (w64 (i23 + 1)) fun i468 =>
 some (.next (group41, i468))
 else
 some (.brk group20)
noncomputable def ref31_Encode (a0 : List api_Point) : Option (List UInt8 × Int) :=
 flow (flow (loop (ref31_Encode_lp1 a0) ([], 0)) fun group27 =>
 some (.go group27) : Option (Flow (List api_Fld) (List UInt8 × Int))) fun group12 =>
 bif decide ((group12.length : Int) = 0) then
 some ([], 0)
 else
 (ref31_sub 1 group12).bind fun r480 =>
 (ref30_Encode [r480]).bind fun (r502, r503) =>
 some (r502, r503)
end Go.Lg
namespace Go.Lg
noncomputable def law31_OtlpBack_lp1 : (List UInt8 × Int) → Option (Rnd (List UInt8 × Int) Unit Unit) := fun (b77, i80) =>
 bif decide (i80 < (b77.length : Int)) then
 (idx b77 i80).bind fun e98 =>
 (setI b77 i80 0).bind fun xs108 =>
 lett (w64 (i80 + 1)) fun i112 =>
 some (.next (xs108, i112))
 else
 some (.brk ())
noncomputable def law31_OtlpBack (a0 : List api_Point) (a1 : List UInt8) : Option Bool :=
 (law31_awake).bind fun r13 =>
 bif (!r13) then
 some false
 else
 (ref12_Some a0 20).bind fun r25 =>
 bif ((!r25) || (decide (2000 < (a1.length : Int)))) then
 some true
 else
 flow ((otlp_Encode a0).bind fun (r45, r46) =>
 bif decide (r46 = 0) then
 (otlp_Decode r45).bind fun (r59, r60) =>
 (flow (loop (law31_OtlpBack_lp1) (r45, 0)) fun (_ : Unit) =>
 some ()).bind fun (_ : Unit) =>
 (bif (!decide (r60 = 0)) then
 some true
 else
 (ref12_SameAll a0 r59).bind fun r124 =>
 some (!r124) : Option Bool).bind fun x113 =>
 bif x113 then
 outs (some false)
 else
 some (.go ())
 else
 some (.go ())) fun (_ : Unit) =>
 (otlp_Decode a1).bind fun (r138, r139) =>
 bif (!decide (r139 = 0)) then
 lett (decide ((r138.length : Int) = 0)) fun t152 =>
 some t152
 else
 (otlp_Encode r138).bind fun (r154, r155) =>
 (otlp_Decode r154).bind fun (r167, r168) =>
 (bif ((decide (r155 = 0)) && (decide (r168 = 0))) then
 (ref12_SameAll r138 r167).bind fun r190 =>
 some r190
 else
 some false : Option Bool).bind fun x181 =>
 some x181
end Go.Lg
namespace Go.Lg
attribute [local irreducible] w64 toU64 toU8 shlU shrU shlB shrB
def vF (n : Int) (v : UInt64) : api_Fld := ⟨n, 0, v, []⟩
def xF (n : Int) (v : UInt64) : api_Fld := ⟨n, 1, v, []⟩
def bF (n : Int) (b : List UInt8) : api_Fld := ⟨n, 2, 0, b⟩
def sF (n : Int) (l : List api_Fld) : api_Fld := bF n (encL l)
abbrev NumOk (n : Int) : Prop := 1 ≤ n ∧ n ≤ 536870911
theorem vF_ok {n : Int} (h : NumOk n) (v : UInt64) : FOk (vF n v) := ⟨h.1, h.2, .inl rfl, fun _ => rfl, fun h => by cases h⟩
theorem xF_ok {n : Int} (h : NumOk n) (v : UInt64) : FOk (xF n v) := ⟨h.1, h.2, .inr (.inl rfl), fun _ => rfl, fun h => by cases h⟩
theorem bF_ok {n : Int} (h : NumOk n) (b : List UInt8) : FOk (bF n b) := ⟨h.1, h.2, .inr (.inr rfl), fun h => absurd rfl h, fun _ => rfl⟩
theorem sF_ok {n : Int} (h : NumOk n) (l : List api_Fld) : FOk (sF n l) := bF_ok h _
theorem encF_le {f : api_Fld} (h : FOk f) (hb : f.B.length ≤ 100000000) : (encF f).length ≤ f.B.length + 20 := by
  have a := h.n1; have b := h.n2; have t := h.t
  unfold encF
  rw [List.length_append]
  have h1 := varL_len10 (v := (8 * f.Num + f.Type_).toNat) (by omega)
  split
  · have := varL_len10 (UInt64.toNat_lt f.V); omega
  split
  · rw [eight_len]; omega
  · rw [List.length_append]
    have := varL_len10 (v := f.B.length) (by omega)
    omega
theorem encL_cons (f : api_Fld) (l : List api_Fld) : encL (f :: l) = encF f ++ encL l := by simp [encL]
/-- how much a row takes at most -/
def szL (l : List api_Fld) : Nat := (l.map fun f => f.B.length + 20).sum
theorem encL_le : ∀ {l : List api_Fld}, (∀ f ∈ l, FOk f) → szL l ≤ 100000000 → (encL l).length ≤ szL l
  | [], _, _ => by simp [encL, szL]
  | f :: l, h, hs => by
    have e : szL (f :: l) = f.B.length + 20 + szL l := by simp [szL]
    rw [e] at hs ⊢
    have h1 := encF_le (h f (by simp)) (by omega)
    have h2 := encL_le (l := l) (fun g hg => h g (by simp [hg])) (by omega)
    rw [encL_cons, List.length_append]; omega
theorem len_szL (l : List api_Fld) : 20 * l.length ≤ szL l := by
  induction l with
  | nil => simp [szL]
  | cons f l ih =>
    have e : szL (f :: l) = f.B.length + 20 + szL l := by simp [szL]
    rw [e, List.length_cons]; omega
theorem REncode_eq {l : List api_Fld} (hf : ∀ f ∈ l, FOk f) (hl : (encL l).length ≤ 100000000) (hn : l.length ≤ 100000000) : ref30_Encode l = some (encL l, 0) := by
  have key : ∀ (m i : Nat), i + m = l.length → loop (ref30_Encode_lp1 l) (encL (l.take i), (i : Int)) = some (.go (encL l)) := by
    intro m
    induction m with
    | zero =>
      intro i hi
      refine loop_brk ?_
      unfold ref30_Encode_lp1
      dsimp only
      rw [bifFd (by omega), List.take_of_length_le (by omega)]
    | succ m ih =>
      intro i hi
      have hlt : i < l.length := by omega
      have ht : l.take (i + 1) = l.take i ++ [l[i]] := by rw [List.take_add_one, List.getElem?_eq_getElem hlt]; rfl
      have hs : encL l = encL (l.take i) ++ encF l[i] ++ encL (l.drop (i + 1)) := by
        rw [← encL_snoc, ← ht]
        unfold encL
        rw [← List.flatMap_append, List.take_append_drop]
      have hlen := congrArg List.length hs
      simp only [List.length_append] at hlen
      rw [loop_next (REncode_step hlt hn (hf _ (List.getElem_mem hlt)) (by omega)), ← encL_snoc, ← ht]
      exact ih (i + 1) (by omega)
  have k0 : loop (ref30_Encode_lp1 l) ([], 0) = _ := key l.length 0 (by omega)
  unfold ref30_Encode
  rw [k0, flow_go]
theorem sub_eq {n : Int} {l : List api_Fld} (hf : ∀ f ∈ l, FOk f) (hs : szL l ≤ 100000000) : otlp_sub n l = some (sF n l) := by
  have h := encL_le hf hs
  have := len_szL l
  unfold otlp_sub
  rw [Encode_eq hf (by omega) (by omega), bind_some]; rfl
theorem rsub_eq {n : Int} {l : List api_Fld} (hf : ∀ f ∈ l, FOk f) (hs : szL l ≤ 100000000) : ref31_sub n l = some (sF n l) := by
  have h := encL_le hf hs
  have := len_szL l
  unfold ref31_sub
  rw [REncode_eq hf (by omega) (by omega), bind_some]; rfl
theorem num_eq31 (n : Int) (v : UInt64) : otlp_num n v = some (vF n v) := rfl
theorem text_eq31 (n : Int) (b : List UInt8) : otlp_text n b = some (bF n b) := rfl
theorem fix_eq31 (n : Int) (v : UInt64) : otlp_fix n v = some (xF n v) := rfl
theorem rpacked_eq {l : List UInt64} (hl : (packL l).length ≤ 100000000) (hn : l.length ≤ 100000000) : ref31_packed l = some (packL l) := by
  have key : ∀ (m i : Nat), i + m = l.length → loop (ref31_packed_lp1 l) (packL (l.take i), (i : Int)) = some (.go (packL l)) := by
    intro m
    induction m with
    | zero =>
      intro i hi
      refine loop_brk ?_
      unfold ref31_packed_lp1
      dsimp only
      rw [bifFd (by omega), List.take_of_length_le (by omega)]
    | succ m ih =>
      intro i hi
      have hlt : i < l.length := by omega
      have ht : l.take (i + 1) = l.take i ++ [l[i]] := by rw [List.take_add_one, List.getElem?_eq_getElem hlt]; rfl
      have hs : packL l = packL (l.take i) ++ varL l[i].toNat ++ packL (l.drop (i + 1)) := by
        rw [← packL_snoc, ← ht]
        unfold packL
        rw [← List.flatMap_append, List.take_append_drop]
      have hlen := congrArg List.length hs
      simp only [List.length_append] at hlen
      rw [← ih (i + 1) (by omega), ht, packL_snoc]
      refine loop_next ?_
      unfold ref31_packed_lp1
      dsimp only
      rw [bifTd (by omega), idx_nat hlt, bind_some, RVar_eq, bind_some, app_ok (by omega), bind_some, lett_eq, w64_succ (by omega)]
  have k0 : loop (ref31_packed_lp1 l) ([], 0) = _ := key l.length 0 (by omega)
  unfold ref31_packed
  rw [k0, flow_go]
/-! ### a point's fields -/
def zU (x : Int) : UInt64 := UInt64.ofNat (zz x)
def sideL (s : api_Side) : List api_Fld := [vF 1 (zU s.Offset), bF 2 (packL s.Counts)]
def sideF (n : Int) (s : api_Side) : List api_Fld := if s.Counts = [] then [] else [sF n (sideL s)]
def attrL (a : api_Pair) : List api_Fld := [bF 1 a.Key, bF 2 a.Val]
def attrF (a : api_Pair) : api_Fld := sF 7 (attrL a)
def valF (p : api_Point) : List api_Fld := if p.Kind = 1 then [xF 6 (toU64 p.Int_)] else if p.Kind = 2 ∨ p.Kind = 3 ∨ p.Kind = 5 then [xF 4 p.Re] else []
def tailF (p : api_Point) : List api_Fld := if p.Kind = 5 then [xF 31 p.Im] else if p.Kind = 4 then [vF 8 (zU p.Hist.Scale), vF 9 p.Hist.Zero] ++ sideF 10 p.Hist.Pos ++ sideF 11 p.Hist.Neg else []
def fieldsF (p : api_Point) : List api_Fld := [xF 2 (toU64 p.Start), xF 3 (toU64 p.Time)] ++ valF p ++ (srt p.Attrs).map attrF ++ tailF p
def tempF (p : api_Point) : List api_Fld := if p.Temp = 0 then [] else [vF 2 (toU64 (w64 (3 - p.Temp)))]
def monoF (p : api_Point) : List api_Fld := if p.Mono = true then [vF 3 1] else []
def dataF (p : api_Point) : List api_Fld := [sF 1 (fieldsF p)] ++ tempF p ++ monoF p
def kindN (k : Int) : Int := if k = 3 then 5 else if k = 4 then 10 else if k = 5 then 30 else 7
def metL (p : api_Point) : List api_Fld := [bF 1 p.Name, sF (kindN p.Kind) (dataF p)]
def metF (p : api_Point) : api_Fld := sF 2 (metL p)
/-- a point that can be written -/
structure EP (p : api_Point) : Prop where
  c : chkE p = 0
  f : p.Flags = 0
  o : OkH p.Hist
  pp : (packL p.Hist.Pos.Counts).length ≤ 3000
  pn : (packL p.Hist.Neg.Counts).length ≤ 3000
theorem packL_ge (l : List UInt64) : l.length ≤ (packL l).length := by
  induction l with
  | nil => simp
  | cons v l ih =>
    have e : packL (v :: l) = varL v.toNat ++ packL l := by simp [packL]
    have := varL_pos v.toNat
    rw [e, List.length_append, List.length_cons]; omega
theorem szL_nil : szL [] = 0 := rfl
theorem szL_cons (f : api_Fld) (l : List api_Fld) : szL (f :: l) = f.B.length + 20 + szL l := by simp [szL]
theorem szL_app (l m : List api_Fld) : szL (l ++ m) = szL l + szL m := by simp [szL]
theorem ok_nil : ∀ f ∈ ([] : List api_Fld), FOk f := fun _ h => by cases h
theorem ok_cons {f : api_Fld} {l : List api_Fld} (h : FOk f) (hl : ∀ g ∈ l, FOk g) : ∀ g ∈ f :: l, FOk g := fun g hg => by
  rcases List.mem_cons.1 hg with rfl | hg
  · exact h
  · exact hl g hg
theorem ok_app {l m : List api_Fld} (hl : ∀ g ∈ l, FOk g) (hm : ∀ g ∈ m, FOk g) : ∀ g ∈ l ++ m, FOk g := fun g hg => (List.mem_append.1 hg).elim (hl g) (hm g)
theorem side_ok (s : api_Side) : ∀ f ∈ sideL s, FOk f := ok_cons (vF_ok ⟨by decide, by decide⟩ _) (ok_cons (bF_ok ⟨by decide, by decide⟩ _) ok_nil)
theorem attr_ok (a : api_Pair) : ∀ f ∈ attrL a, FOk f := ok_cons (bF_ok ⟨by decide, by decide⟩ _) (ok_cons (bF_ok ⟨by decide, by decide⟩ _) ok_nil)
theorem side_sz {s : api_Side} (h : (packL s.Counts).length ≤ 3000) : szL (sideL s) ≤ 3040 := by
  unfold sideL
  rw [szL_cons, szL_cons, szL_nil]
  have e1 : (vF 1 (zU s.Offset)).B.length = 0 := rfl
  have e2 : (bF 2 (packL s.Counts)).B.length = (packL s.Counts).length := rfl
  omega
theorem sF_sz {n : Int} {l : List api_Fld} {k : Nat} (hf : ∀ f ∈ l, FOk f) (h : szL l ≤ k) (hk : k ≤ 100000000) : (sF n l).B.length ≤ k := by
  have := encL_le hf (by omega)
  show (encL l).length ≤ k
  omega
theorem sideF_ok {n : Int} (h : NumOk n) (s : api_Side) : ∀ f ∈ sideF n s, FOk f := by
  unfold sideF
  split
  · exact ok_nil
  · exact ok_cons (sF_ok h _) ok_nil
theorem sideF_sz {n : Int} {s : api_Side} (h : (packL s.Counts).length ≤ 3000) : szL (sideF n s) ≤ 3060 := by
  unfold sideF
  split
  · rw [szL_nil]; omega
  · rw [szL_cons, szL_nil]
    have := sF_sz (n := n) (side_ok s) (side_sz h) (by omega)
    omega
theorem otlp_side_eq {n : Int} {s : api_Side} (io : I64 s.Offset) (h : (packL s.Counts).length ≤ 3000) : otlp_side n s = some (sideF n s) := by
  have hl := packL_ge s.Counts
  have hz := side_sz h
  unfold otlp_side sideF
  by_cases e : s.Counts = []
  · rw [if_pos e, bifTd (by rw [e]; rfl)]
  · rw [if_neg e, bifFd (by intro q; exact e (List.eq_nil_of_length_eq_zero (by omega))), zig_eq io, bind_some, num_eq31, bind_some, Packed_eq (by omega) (by omega), bind_some]
    have q : otlp_sub n (sideL s) = some (sF n (sideL s)) := sub_eq (side_ok s) (by omega)
    have q' : otlp_sub n [vF 1 (UInt64.ofNat (zz s.Offset)), api_Fld.mk 2 2 0 (packL s.Counts)] = _ := q
    rw [q', bind_some]
theorem ref_side_eq {s : api_Side} (io : I64 s.Offset) (h : (packL s.Counts).length ≤ 3000) : ref31_side s = some (sideL s) := by
  have hl := packL_ge s.Counts
  unfold ref31_side
  rw [refZig_eq io, bind_some, rpacked_eq (by omega) (by omega), bind_some]; rfl
theorem attr_sz {a : api_Pair} (hk : a.Key.length ≤ 32) (hv : a.Val.length ≤ 32) : szL (attrL a) ≤ 104 := by
  unfold attrL
  rw [szL_cons, szL_cons, szL_nil]
  have e1 : (bF 1 a.Key).B.length = a.Key.length := rfl
  have e2 : (bF 2 a.Val).B.length = a.Val.length := rfl
  omega
end Go.Lg
namespace Go.Lg
attribute [local irreducible] w64 toU64 toU8 shlU shrU shlB shrB
theorem map_szL {l : List api_Pair} (h : ∀ a ∈ l, a.Key.length ≤ 32 ∧ a.Val.length ≤ 32) : szL (l.map attrF) ≤ 124 * l.length := by
  induction l with
  | nil => simp [szL]
  | cons a l ih =>
    have h1 := ih fun b hb => h b (by simp [hb])
    have h2 := h a (by simp)
    have h3 : (attrF a).B.length ≤ 104 := sF_sz (attr_ok a) (attr_sz h2.1 h2.2) (by omega)
    rw [List.map_cons, szL_cons, List.length_cons]; omega
theorem map_ok (l : List api_Pair) : ∀ f ∈ l.map attrF, FOk f := fun f hf => by
  obtain ⟨a, _, rfl⟩ := List.mem_map.1 hf
  exact sF_ok ⟨by decide, by decide⟩ _
theorem attrs_lp {l : List api_Pair} (h : ∀ a ∈ l, a.Key.length ≤ 32 ∧ a.Val.length ≤ 32) (hl : l.length ≤ 1000) (l0 : List api_Fld) (h0 : l0.length ≤ 1000) :
    loop (otlp_fields_lp1 l) (l0, 0) = some (.go (l0 ++ l.map attrF)) ∧ loop (ref31_fields_lp1 l) (l0, 0) = some (.go (l0 ++ l.map attrF)) := by
  have key : ∀ (m i : Nat), i + m = l.length → loop (otlp_fields_lp1 l) (l0 ++ (l.take i).map attrF, (i : Int)) = some (.go (l0 ++ l.map attrF)) ∧ loop (ref31_fields_lp1 l) (l0 ++ (l.take i).map attrF, (i : Int)) = some (.go (l0 ++ l.map attrF)) := by
    intro m
    induction m with
    | zero =>
      intro i hi
      rw [List.take_of_length_le (by omega)]
      constructor
      · refine loop_brk ?_
        unfold otlp_fields_lp1
        dsimp only
        rw [bifFd (by omega)]
      · refine loop_brk ?_
        unfold ref31_fields_lp1
        dsimp only
        rw [bifFd (by omega)]
    | succ m ih =>
      intro i hi
      have hlt : i < l.length := by omega
      have ht : l.take (i + 1) = l.take i ++ [l[i]] := by rw [List.take_add_one, List.getElem?_eq_getElem hlt]; rfl
      have hb := h _ (List.getElem_mem hlt)
      have hs := attr_sz hb.1 hb.2
      obtain ⟨i1, i2⟩ := ih (i + 1) (by omega)
      rw [ht, List.map_append, ← List.append_assoc] at i1 i2
      have hlen : (l0 ++ (l.take i).map attrF).length ≤ 2000 := by rw [List.length_append, List.length_map, List.length_take]; omega
      constructor
      · rw [← i1]
        refine loop_next ?_
        unfold otlp_fields_lp1
        dsimp only
        have q : otlp_sub 7 (attrL l[i]) = some (attrF l[i]) := sub_eq (attr_ok _) (by omega)
        have q' : otlp_sub 7 [bF 1 l[i].Key, bF 2 l[i].Val] = _ := q
        rw [bifTd (by omega), idx_nat hlt, bind_some, text_eq31, bind_some, text_eq31, bind_some, q', bind_some, app_ok (by simp only [List.length_singleton]; omega), bind_some, w64_succ (by omega)]; rfl
      · rw [← i2]
        refine loop_next ?_
        unfold ref31_fields_lp1
        dsimp only
        have q : ref31_sub 7 (attrL l[i]) = some (attrF l[i]) := rsub_eq (attr_ok _) (by omega)
        have q' : ref31_sub 7 [api_Fld.mk 1 2 0 l[i].Key, api_Fld.mk 2 2 0 l[i].Val] = _ := q
        rw [bifTd (by omega), idx_nat hlt, bind_some, bind_some, bind_some]
        dsimp only
        rw [q', bind_some, app_ok (by simp only [List.length_singleton]; omega), bind_some, lett_eq, w64_succ (by omega)]; rfl
  have k := key l.length 0 (by omega)
  simpa using k
theorem EP.lens {p : api_Point} (e : EP p) : p.Name.length ≤ 32 ∧ p.Attrs.length ≤ 4 ∧ ∀ a ∈ p.Attrs, a.Key.length ≤ 32 ∧ a.Val.length ≤ 32 := label_lens (chk_label e.c)
theorem EP.srt {p : api_Point} (e : EP p) : (srt p.Attrs).length ≤ 4 ∧ ∀ a ∈ srt p.Attrs, a.Key.length ≤ 32 ∧ a.Val.length ≤ 32 := by
  obtain ⟨_, h2, h3⟩ := e.lens
  exact ⟨by rw [srt_length]; omega, fun a ha => h3 a (srt_mem ha)⟩
theorem val_ok (p : api_Point) : (∀ f ∈ valF p, FOk f) ∧ szL (valF p) ≤ 20 ∧ (valF p).length ≤ 1 := by
  unfold valF
  split
  · exact ⟨ok_cons (xF_ok ⟨by decide, by decide⟩ _) ok_nil, Nat.le_refl _, Nat.le_refl _⟩
  split
  · exact ⟨ok_cons (xF_ok ⟨by decide, by decide⟩ _) ok_nil, Nat.le_refl _, Nat.le_refl _⟩
  · exact ⟨ok_nil, Nat.zero_le _, Nat.zero_le _⟩
theorem sideF_len (n : Int) (s : api_Side) : (sideF n s).length ≤ 1 := by
  unfold sideF
  split
  · exact Nat.zero_le _
  · exact Nat.le_refl _
theorem tail_ok {p : api_Point} (e : EP p) : (∀ f ∈ tailF p, FOk f) ∧ szL (tailF p) ≤ 6160 := by
  unfold tailF
  split
  · exact ⟨ok_cons (xF_ok ⟨by decide, by decide⟩ _) ok_nil, by rw [szL_cons, szL_nil]; show 0 + 20 + 0 ≤ 6160; omega⟩
  split
  · refine ⟨ok_app (ok_app (ok_cons (vF_ok ⟨by decide, by decide⟩ _) (ok_cons (vF_ok ⟨by decide, by decide⟩ _) ok_nil)) (sideF_ok ⟨by decide, by decide⟩ _)) (sideF_ok ⟨by decide, by decide⟩ _), ?_⟩
    have h1 := sideF_sz (n := 10) e.pp
    have h2 := sideF_sz (n := 11) e.pn
    rw [szL_app, szL_app, szL_cons, szL_cons, szL_nil]
    have e1 : (vF 8 (zU p.Hist.Scale)).B.length = 0 := rfl
    have e2 : (vF 9 p.Hist.Zero).B.length = 0 := rfl
    omega
  · exact ⟨ok_nil, Nat.zero_le _⟩
theorem fields_ok {p : api_Point} (e : EP p) : (∀ f ∈ fieldsF p, FOk f) ∧ szL (fieldsF p) ≤ 6716 := by
  obtain ⟨t1, t2⟩ := tail_ok e
  obtain ⟨v1, v2, _⟩ := val_ok p
  obtain ⟨s1, s2⟩ := e.srt
  have hm := map_szL s2
  unfold fieldsF
  refine ⟨ok_app (ok_app (ok_app (ok_cons (xF_ok ⟨by decide, by decide⟩ _) (ok_cons (xF_ok ⟨by decide, by decide⟩ _) ok_nil)) v1) (map_ok _)) t1, ?_⟩
  rw [szL_app, szL_app, szL_app, szL_cons, szL_cons, szL_nil]
  have e1 : (xF 2 (toU64 p.Start)).B.length = 0 := rfl
  have e2 : (xF 3 (toU64 p.Time)).B.length = 0 := rfl
  omega
theorem EP.kind {p : api_Point} (e : EP p) : p.Kind = 1 ∨ p.Kind = 2 ∨ p.Kind = 3 ∨ p.Kind = 4 ∨ p.Kind = 5 := by
  have := (chk0 e.c).1
  unfold KindP at this
  omega
theorem EP.temp {p : api_Point} (e : EP p) : p.Temp = 0 ∨ p.Temp = 1 ∨ p.Temp = 2 := by
  have := (chk0 e.c).1
  unfold KindP at this
  omega
theorem appF {l m : List api_Fld} (hl : l.length ≤ 1000) (hm : m.length ≤ 1000) : app l m = some (l ++ m) := app_ok (by omega)
theorem otlp_fields_eq {p : api_Point} (e : EP p) : otlp_fields p = some (fieldsF p) := by
  obtain ⟨_, l2, _⟩ := e.lens
  obtain ⟨s1, s2⟩ := e.srt
  obtain ⟨_, _, v3⟩ := val_ok p
  have hA := (attrs_lp s2 (by omega) ([xF 2 (toU64 p.Start), xF 3 (toU64 p.Time)] ++ valF p) (by rw [List.length_append]; simp only [List.length_cons, List.length_nil]; omega)).1
  have hlen : ([xF 2 (toU64 p.Start), xF 3 (toU64 p.Time)] ++ valF p ++ (srt p.Attrs).map attrF).length ≤ 10 := by
    rw [List.length_append, List.length_append, List.length_map]; simp only [List.length_cons, List.length_nil]; omega
  unfold otlp_fields
  simp only [fix_eq31, num_eq31, bind_some, lett_eq, sorted_eq _ (show p.Attrs.length < 20 by omega)]
  have d1 := sideF_len 10 p.Hist.Pos
  have d2 := sideF_len 11 p.Hist.Neg
  rcases e.kind with h | h | h | h | h
  · have hv : valF p = [xF 6 (toU64 p.Int_)] := by unfold valF; rw [h]; rfl
    have ht : tailF p = [] := by unfold tailF; rw [h]; rfl
    rw [bifTd h, appF (by simp) (by simp), bind_some, bind_some, ← hv, hA, flow_go, bind_some, bifFd (by omega), bifFd (by omega)]
    unfold fieldsF; rw [ht, List.append_nil]
  · have hv : valF p = [xF 4 p.Re] := by unfold valF; rw [h]; rfl
    have ht : tailF p = [] := by unfold tailF; rw [h]; rfl
    rw [bifFd (by omega), bifTd h, bind_some, bifTd h, appF (by simp) (by simp), bind_some, bind_some, ← hv, hA, flow_go, bind_some, bifFd (by omega), bifFd (by omega)]
    unfold fieldsF; rw [ht, List.append_nil]
  · have hv : valF p = [xF 4 p.Re] := by unfold valF; rw [h]; rfl
    have ht : tailF p = [] := by unfold tailF; rw [h]; rfl
    rw [bifFd (by omega), bifFd (by omega), bifTd h, bind_some, bifTd h, appF (by simp) (by simp), bind_some, bind_some, ← hv, hA, flow_go, bind_some, bifFd (by omega), bifFd (by omega)]
    unfold fieldsF; rw [ht, List.append_nil]
  · have hv : valF p = [] := by unfold valF; rw [h]; rfl
    have ht : tailF p = [vF 8 (zU p.Hist.Scale), vF 9 p.Hist.Zero] ++ sideF 10 p.Hist.Pos ++ sideF 11 p.Hist.Neg := by unfold tailF; rw [if_neg (by omega), if_pos h]
    have hA' : loop (otlp_fields_lp1 (srt p.Attrs)) ([xF 2 (toU64 p.Start), xF 3 (toU64 p.Time)], 0) = some (.go ([xF 2 (toU64 p.Start), xF 3 (toU64 p.Time)] ++ valF p ++ (srt p.Attrs).map attrF)) := by rw [hv, List.append_nil] at hA ⊢; exact hA
    rw [bifFd (by omega), bifFd (by omega), bifFd (by omega), bind_some, bifFd (by omega), bind_some, hA', flow_go, bind_some, bifFd (by omega), bifTd h, zig_eq e.o.s, bind_some, appF (by omega) (by simp), bind_some, otlp_side_eq e.o.po e.pp, bind_some,
      appF (by rw [List.length_append]; simp only [List.length_cons, List.length_nil]; omega) (by omega), bind_some, otlp_side_eq e.o.no e.pn, bind_some, appF (by rw [List.length_append, List.length_append]; simp only [List.length_cons, List.length_nil]; omega) (by omega), bind_some]
    unfold fieldsF; rw [ht]; simp only [List.append_assoc]; rfl
  · have hv : valF p = [xF 4 p.Re] := by unfold valF; rw [h]; rfl
    have ht : tailF p = [xF 31 p.Im] := by unfold tailF; rw [h]; rfl
    rw [bifFd (by omega), bifFd (by omega), bifFd (by omega), bind_some, bifTd (by omega), appF (by simp) (by simp), bind_some, bind_some, ← hv, hA, flow_go, bind_some, bifTd h, appF (by omega) (by simp), bind_some]
    unfold fieldsF; rw [ht]
theorem rside_step {n : Int} {s : api_Side} (io : I64 s.Offset) (h : (packL s.Counts).length ≤ 3000) {l : List api_Fld} (hl : l.length ≤ 900) :
    (bif decide (0 < (s.Counts.length : Int)) then (ref31_side s).bind fun r => (ref31_sub n r).bind fun q => (app l [q]).bind fun xs => some xs else some l : Option (List api_Fld)) = some (l ++ sideF n s) := by
  have hz := side_sz h
  unfold sideF
  by_cases e : s.Counts = []
  · rw [if_pos e, bifFd (by rw [e]; decide), List.append_nil]
  · rw [if_neg e, bifTd (by have := List.length_pos_iff.2 e; omega), ref_side_eq io h, bind_some, rsub_eq (side_ok s) (by omega), bind_some, appF (by omega) (by simp), bind_some]
theorem ref_fields_eq {p : api_Point} (e : EP p) : ref31_fields p = some (fieldsF p) := by
  obtain ⟨_, l2, _⟩ := e.lens
  obtain ⟨s1, s2⟩ := e.srt
  obtain ⟨_, _, v3⟩ := val_ok p
  have hA := (attrs_lp s2 (by omega) ([xF 2 (toU64 p.Start), xF 3 (toU64 p.Time)] ++ valF p) (by rw [List.length_append]; simp only [List.length_cons, List.length_nil]; omega)).2
  have hlen : ([xF 2 (toU64 p.Start), xF 3 (toU64 p.Time)] ++ valF p ++ (srt p.Attrs).map attrF).length ≤ 10 := by
    rw [List.length_append, List.length_append, List.length_map]; simp only [List.length_cons, List.length_nil]; omega
  unfold ref31_fields
  rw [rsorted_eq _ (by omega)]
  have d1 := sideF_len 10 p.Hist.Pos
  have d2 := sideF_len 11 p.Hist.Neg
  have hl0 : [api_Fld.mk 2 1 (toU64 p.Start) [], api_Fld.mk 3 1 (toU64 p.Time) []] = [xF 2 (toU64 p.Start), xF 3 (toU64 p.Time)] := rfl
  rw [hl0]
  rcases e.kind with h | h | h | h | h
  · have hv : valF p = [api_Fld.mk 6 1 (toU64 p.Int_) []] := by unfold valF; rw [h]; rfl
    have ht : tailF p = [] := by unfold tailF; rw [h]; rfl
    rw [bifF (by rw [h]; rfl), bind_some, bifTd h, appF (by simp) (by simp), bind_some, bind_some, bind_some, ← hv, hA, flow_go, bind_some, bifFd (by omega), bind_some, bifFd (by omega)]
    unfold fieldsF; rw [ht, List.append_nil]
  · have hv : valF p = [api_Fld.mk 4 1 p.Re []] := by unfold valF; rw [h]; rfl
    have ht : tailF p = [] := by unfold tailF; rw [h]; rfl
    rw [bifT (by rw [h]; rfl), appF (by simp) (by simp), bind_some, bind_some, bifFd (by omega), bind_some, bind_some, ← hv, hA, flow_go, bind_some, bifFd (by omega), bind_some, bifFd (by omega)]
    unfold fieldsF; rw [ht, List.append_nil]
  · have hv : valF p = [api_Fld.mk 4 1 p.Re []] := by unfold valF; rw [h]; rfl
    have ht : tailF p = [] := by unfold tailF; rw [h]; rfl
    rw [bifT (by rw [h]; rfl), appF (by simp) (by simp), bind_some, bind_some, bifFd (by omega), bind_some, bind_some, ← hv, hA, flow_go, bind_some, bifFd (by omega), bind_some, bifFd (by omega)]
    unfold fieldsF; rw [ht, List.append_nil]
  · have hv : valF p = [] := by unfold valF; rw [h]; rfl
    have ht : tailF p = [vF 8 (zU p.Hist.Scale), vF 9 p.Hist.Zero] ++ sideF 10 p.Hist.Pos ++ sideF 11 p.Hist.Neg := by unfold tailF; rw [if_neg (by omega), if_pos h]
    have hA' : loop (ref31_fields_lp1 (srt p.Attrs)) ([xF 2 (toU64 p.Start), xF 3 (toU64 p.Time)], 0) = some (.go ([xF 2 (toU64 p.Start), xF 3 (toU64 p.Time)] ++ valF p ++ (srt p.Attrs).map attrF)) := by rw [hv, List.append_nil] at hA ⊢; exact hA
    rw [bifF (by rw [h]; rfl), bind_some, bifFd (by omega), bind_some, bind_some, hA', flow_go, bind_some, bifTd h, refZig_eq e.o.s, bind_some, appF (by omega) (by simp), bind_some, appF (by rw [List.length_append]; simp only [List.length_cons, List.length_nil]; omega) (by simp), bind_some]
    rw [rside_step e.o.po e.pp (by simp only [List.length_append, List.length_cons, List.length_nil] at hlen ⊢; omega), bind_some, rside_step e.o.no e.pn (by simp only [List.length_append, List.length_cons, List.length_nil] at hlen ⊢; omega), bind_some, bifFd (by omega)]
    unfold fieldsF; rw [ht]; simp only [List.append_assoc]; rfl
  · have hv : valF p = [api_Fld.mk 4 1 p.Re []] := by unfold valF; rw [h]; rfl
    have ht : tailF p = [xF 31 p.Im] := by unfold tailF; rw [h]; rfl
    rw [bifT (by rw [h]; rfl), appF (by simp) (by simp), bind_some, bind_some, bifFd (by omega), bind_some, bind_some, ← hv, hA, flow_go, bind_some, bifFd (by omega), bind_some, bifTd h, appF (by omega) (by simp), bind_some]
    unfold fieldsF; rw [ht]; rfl
/-! ### a metric -/
theorem kind_num (k : Int) : NumOk (kindN k) := by
  unfold kindN NumOk
  split
  · omega
  split
  · omega
  split <;> omega
theorem data_eq31 (k : Int) : otlp_data k = some (kindN k) := by
  unfold otlp_data kindN
  simp only [lett_eq]
  by_cases h3 : k = 3
  · rw [bifTd h3, if_pos h3]
  rw [bifFd h3, if_neg h3]
  by_cases h4 : k = 4
  · rw [bifTd h4, if_pos h4]
  rw [bifFd h4, if_neg h4]
  by_cases h5 : k = 5
  · rw [bifTd h5, if_pos h5]
  rw [bifFd h5, if_neg h5]
theorem rfield_eq31 {p : api_Point} (e : EP p) : ref31_field p.Kind = some (kindN p.Kind) := by
  unfold ref31_field
  rcases e.kind with h | h | h | h | h <;> rw [h] <;> rfl
theorem data_ok {p : api_Point} (e : EP p) : (∀ f ∈ dataF p, FOk f) ∧ szL (dataF p) ≤ 6800 := by
  obtain ⟨f1, f2⟩ := fields_ok e
  have h0 := sF_sz (n := 1) f1 f2 (by omega)
  have ht : (∀ f ∈ tempF p, FOk f) ∧ szL (tempF p) ≤ 20 := by
    unfold tempF
    split
    · exact ⟨ok_nil, Nat.zero_le _⟩
    · exact ⟨ok_cons (vF_ok ⟨by decide, by decide⟩ _) ok_nil, Nat.le_refl _⟩
  have hm : (∀ f ∈ monoF p, FOk f) ∧ szL (monoF p) ≤ 20 := by
    unfold monoF
    split
    · exact ⟨ok_cons (vF_ok ⟨by decide, by decide⟩ _) ok_nil, Nat.le_refl _⟩
    · exact ⟨ok_nil, Nat.zero_le _⟩
  unfold dataF
  refine ⟨ok_app (ok_app (ok_cons (sF_ok ⟨by decide, by decide⟩ _) ok_nil) ht.1) hm.1, ?_⟩
  rw [szL_app, szL_app, szL_cons, szL_nil]
  omega
theorem met_ok {p : api_Point} (e : EP p) : (∀ f ∈ metL p, FOk f) ∧ szL (metL p) ≤ 6900 := by
  obtain ⟨d1, d2⟩ := data_ok e
  obtain ⟨l1, _, _⟩ := e.lens
  have h0 := sF_sz (n := kindN p.Kind) d1 d2 (by omega)
  unfold metL
  refine ⟨ok_cons (bF_ok ⟨by decide, by decide⟩ _) (ok_cons (sF_ok (kind_num _) _) ok_nil), ?_⟩
  rw [szL_cons, szL_cons, szL_nil]
  have e1 : (bF 1 p.Name).B.length = p.Name.length := rfl
  omega
theorem metric_eq {p : api_Point} (e : EP p) : otlp_metric p = some (metF p) := by
  obtain ⟨f1, f2⟩ := fields_ok e
  obtain ⟨d1, d2⟩ := data_ok e
  obtain ⟨m1, m2⟩ := met_ok e
  have hb : (bif (!decide (p.Temp = 0)) then (otlp_num 2 (toU64 (w64 (3 - p.Temp)))).bind fun r93 => (app [sF 1 (fieldsF p)] [r93]).bind fun xs115 => some xs115 else some [sF 1 (fieldsF p)] : Option (List api_Fld)) = some ([sF 1 (fieldsF p)] ++ tempF p) := by
    unfold tempF
    by_cases h : p.Temp = 0
    · rw [if_pos h, bifF (by simp [h])]; rfl
    · rw [if_neg h, bifT (by simp [h]), num_eq31, bind_some, appF (by simp) (by simp), bind_some]
  have hl : ([sF 1 (fieldsF p)] ++ tempF p).length ≤ 2 := by
    unfold tempF
    split <;> simp
  have hm : (bif p.Mono then (otlp_num 3 (1 : UInt64)).bind fun r143 => (app ([sF 1 (fieldsF p)] ++ tempF p) [r143]).bind fun xs165 => some xs165 else some ([sF 1 (fieldsF p)] ++ tempF p) : Option (List api_Fld)) = some (dataF p) := by
    unfold dataF monoF
    cases h : p.Mono
    · rw [if_neg (by simp), List.append_nil]; rfl
    · rw [if_pos rfl, cond_true, num_eq31, bind_some, appF (by omega) (by simp), bind_some]
  unfold otlp_metric
  rw [otlp_fields_eq e, bind_some, sub_eq f1 (by omega), bind_some, hb, bind_some, hm, bind_some, text_eq31, bind_some, data_eq31, bind_some, sub_eq d1 (by omega), bind_some]
  have q : otlp_sub 2 (metL p) = some (metF p) := sub_eq m1 (by omega)
  have q' : otlp_sub 2 [bF 1 p.Name, sF (kindN p.Kind) (dataF p)] = _ := q
  rw [q', bind_some]
def badP (p : api_Point) : Int := if chkE p = 0 then (if p.Flags = 0 then 0 else 3) else chkE p
theorem bad_zero {p : api_Point} : badP p = 0 ↔ chkE p = 0 ∧ p.Flags = 0 := by
  unfold badP
  by_cases h : chkE p = 0
  · rw [if_pos h]
    by_cases f : p.Flags = 0
    · rw [if_pos f]; exact ⟨fun _ => ⟨h, f⟩, fun _ => rfl⟩
    · rw [if_neg f]; exact ⟨fun q => absurd q (by decide), fun q => absurd q.2 f⟩
  · rw [if_neg h]; exact ⟨fun q => absurd q h, fun q => absurd q.1 h⟩
theorem enc_step {ps : List api_Point} {i : Nat} (h : i < ps.length) (hn : ps.length ≤ 100000000) (ho : OkH ps[i].Hist) (hp : (packL ps[i].Hist.Pos.Counts).length ≤ 3000) (hq : (packL ps[i].Hist.Neg.Counts).length ≤ 3000) {g : List api_Fld} (hg : g.length ≤ 100000000) :
    otlp_Encode_lp1 ps (g, (i : Int)) = some (if badP ps[i] = 0 then .next (g ++ [metF ps[i]], ((i + 1 : Nat) : Int)) else .out (.out ([], badP ps[i]))) := by
  unfold otlp_Encode_lp1
  dsimp only
  rw [bifTd (by omega), idx_nat h, bind_some, chk_eq ho, bind_some]
  have e1 : (bif ((decide (chkE ps[i] = 0)) && (!decide (ps[i].Flags = 0))) then some 3 else some (chkE ps[i]) : Option Int) = some (badP ps[i]) := by
    unfold badP
    by_cases c : chkE ps[i] = 0
    · rw [if_pos c]
      by_cases f : ps[i].Flags = 0
      · rw [if_pos f, bifF (by simp [f]), c]
      · rw [if_neg f, bifT (by simp [c, f])]
    · rw [if_neg c, bifF (by simp [c])]
  rw [e1, bind_some]
  by_cases b : badP ps[i] = 0
  · have k := bad_zero.1 b
    rw [if_pos b, bifF (by simp [b]), metric_eq ⟨k.1, k.2, ho, hp, hq⟩, bind_some, app_ok (by simp only [List.length_singleton]; omega), bind_some, flow_go, w64_succ (by omega)]
  · rw [if_neg b, bifT (by simp [b])]; rfl
theorem renc_step {ps : List api_Point} {i : Nat} (h : i < ps.length) (hn : ps.length ≤ 100000000) (ho : OkH ps[i].Hist) (hp : (packL ps[i].Hist.Pos.Counts).length ≤ 3000) (hq : (packL ps[i].Hist.Neg.Counts).length ≤ 3000) {g : List api_Fld} (hg : g.length ≤ 100000000) :
    ref31_Encode_lp1 ps (g, (i : Int)) = some (if badP ps[i] = 0 then .next (g ++ [metF ps[i]], ((i + 1 : Nat) : Int)) else .out (.out ([], badP ps[i]))) := by
  unfold ref31_Encode_lp1
  dsimp only
  rw [bifTd (by omega), idx_nat h, bind_some, rchk_eq ho, bind_some]
  by_cases c : chkE ps[i] = 0
  case neg =>
    have b : badP ps[i] = chkE ps[i] := by unfold badP; rw [if_neg c]
    rw [b, if_neg c, bifT (by simp [c])]; rfl
  rw [bifF (by simp [c])]
  by_cases f : ps[i].Flags = 0
  case neg =>
    have b : badP ps[i] = 3 := by unfold badP; rw [if_pos c, if_neg f]
    rw [b, if_neg (by decide), bifT (by simp [f])]; rfl
  have e : EP ps[i] := ⟨c, f, ho, hp, hq⟩
  have b : badP ps[i] = 0 := bad_zero.2 ⟨c, f⟩
  obtain ⟨f1, f2⟩ := fields_ok e
  obtain ⟨d1, d2⟩ := data_ok e
  obtain ⟨m1, m2⟩ := met_ok e
  rw [b, if_pos rfl, bifF (by simp [f]), ref_fields_eq e, bind_some, rsub_eq f1 (by omega), bind_some]
  have t1 : ∃ d, (bif decide (ps[i].Temp = 1) then (app [sF 1 (fieldsF ps[i])] [(api_Fld.mk 2 0 2 [])]).bind fun xs161 => some xs161 else some [sF 1 (fieldsF ps[i])] : Option (List api_Fld)) = some d ∧
      (bif decide (ps[i].Temp = 2) then (app d [(api_Fld.mk 2 0 1 [])]).bind fun xs192 => some xs192 else some d : Option (List api_Fld)) = some ([sF 1 (fieldsF ps[i])] ++ tempF ps[i]) := by
    unfold tempF
    rcases e.temp with h | h | h
    · exact ⟨_, by rw [bifFd (by omega)], by rw [bifFd (by omega), if_pos h, List.append_nil]⟩
    · refine ⟨_, by rw [bifTd h, appF (by simp) (by simp), bind_some], ?_⟩
      rw [bifFd (by omega), if_neg (by omega), h, w64_id (by omega) (by omega)]
      have : toU64 (3 - 1) = 2 := by rw [show (3 : Int) - 1 = ((2 : Nat) : Int) from rfl, toU64_n (by omega)]; rfl
      rw [this]; rfl
    · refine ⟨_, by rw [bifFd (by omega)], ?_⟩
      rw [bifTd h, appF (by simp) (by simp), bind_some, if_neg (by omega), h, w64_id (by omega) (by omega)]
      have : toU64 (3 - 2) = 1 := by rw [show (3 : Int) - 2 = ((1 : Nat) : Int) from rfl, toU64_n (by omega)]; rfl
      rw [this]; rfl
  obtain ⟨d, t1, t2⟩ := t1
  have hl : ([sF 1 (fieldsF ps[i])] ++ tempF ps[i]).length ≤ 2 := by
    unfold tempF
    split <;> simp
  have hm : (bif ps[i].Mono then (app ([sF 1 (fieldsF ps[i])] ++ tempF ps[i]) [(api_Fld.mk 3 0 1 [])]).bind fun xs224 => some xs224 else some ([sF 1 (fieldsF ps[i])] ++ tempF ps[i]) : Option (List api_Fld)) = some (dataF ps[i]) := by
    unfold dataF monoF
    cases h : ps[i].Mono
    · rw [if_neg (by simp), List.append_nil]; rfl
    · rw [if_pos rfl, cond_true, appF (by omega) (by simp), bind_some]; rfl
  have q : ref31_sub 2 (metL ps[i]) = some (metF ps[i]) := rsub_eq m1 (by omega)
  rw [t1, bind_some, t2, bind_some, hm, bind_some, rfield_eq31 e, bind_some, rsub_eq d1 (by omega), bind_some, bind_some]
  dsimp only
  have q' : ref31_sub 2 [(api_Fld.mk 1 2 0 ps[i].Name), (api_Fld.mk (sF (kindN ps[i].Kind) (dataF ps[i])).Num (sF (kindN ps[i].Kind) (dataF ps[i])).Type_ (sF (kindN ps[i].Kind) (dataF ps[i])).V (sF (kindN ps[i].Kind) (dataF ps[i])).B)] = _ := q
  rw [q', bind_some, app_ok (by simp only [List.length_singleton]; omega), bind_some, flow_go, lett_eq, w64_succ (by omega)]
end Go.Lg
namespace Go.Lg
attribute [local irreducible] w64 toU64 toU8 shlU shrU shlB shrB
def outE (ps : List api_Point) : List UInt8 × Int := match ps.find? fun p => decide (badP p ≠ 0) with
  | some p => ([], badP p)
  | none => if ps = [] then ([], 0) else (encL [sF 1 (ps.map metF)], 0)
structure Wr (p : api_Point) : Prop where
  o : OkH p.Hist
  pp : (packL p.Hist.Pos.Counts).length ≤ 3000
  pn : (packL p.Hist.Neg.Counts).length ≤ 3000
def lpE (ps : List api_Point) (l : List api_Point) : Flow (List api_Fld) (Flow (List api_Fld) (List UInt8 × Int)) := match l.find? fun p => decide (badP p ≠ 0) with
  | some p => .out (.out ([], badP p))
  | none => .go (ps.map metF)
theorem enc_lp {ps : List api_Point} (hw : ∀ p ∈ ps, Wr p) (hn : ps.length ≤ 10000) : loop (otlp_Encode_lp1 ps) ([], 0) = some (lpE ps ps) ∧ loop (ref31_Encode_lp1 ps) ([], 0) = some (lpE ps ps) := by
  have key : ∀ (m i : Nat), i + m = ps.length → loop (otlp_Encode_lp1 ps) ((ps.take i).map metF, (i : Int)) = some (lpE ps (ps.drop i)) ∧ loop (ref31_Encode_lp1 ps) ((ps.take i).map metF, (i : Int)) = some (lpE ps (ps.drop i)) := by
    intro m
    induction m with
    | zero =>
      intro i hi
      rw [List.take_of_length_le (by omega), List.drop_of_length_le (by omega)]
      constructor
      · refine loop_brk ?_
        unfold otlp_Encode_lp1
        dsimp only
        rw [bifFd (by omega)]
      · refine loop_brk ?_
        unfold ref31_Encode_lp1
        dsimp only
        rw [bifFd (by omega)]
    | succ m ih =>
      intro i hi
      have hlt : i < ps.length := by omega
      have ht : ps.take (i + 1) = ps.take i ++ [ps[i]] := by rw [List.take_add_one, List.getElem?_eq_getElem hlt]; rfl
      have w := hw _ (List.getElem_mem hlt)
      have hg : ((ps.take i).map metF).length ≤ 100000000 := by rw [List.length_map, List.length_take]; omega
      have s1 := enc_step hlt (by omega) w.o w.pp w.pn hg
      have s2 := renc_step hlt (by omega) w.o w.pp w.pn hg
      obtain ⟨i1, i2⟩ := ih (i + 1) (by omega)
      rw [ht, List.map_append] at i1 i2
      have hd : ps.drop i = ps[i] :: ps.drop (i + 1) := List.drop_eq_getElem_cons hlt
      rw [hd]
      unfold lpE
      rw [List.find?_cons]
      by_cases b : badP ps[i] = 0
      · rw [if_pos b] at s1 s2
        rw [show decide (badP ps[i] ≠ 0) = false by simp [b]]
        exact ⟨(loop_next s1).trans i1, (loop_next s2).trans i2⟩
      · rw [if_neg b] at s1 s2
        rw [show decide (badP ps[i] ≠ 0) = true by simp [b]]
        exact ⟨loop_out s1, loop_out s2⟩
  have k := key ps.length 0 (by omega)
  simpa using k
theorem mets_ok {ps : List api_Point} (he : ∀ p ∈ ps, EP p) : (∀ f ∈ ps.map metF, FOk f) ∧ szL (ps.map metF) ≤ 6920 * ps.length := by
  refine ⟨fun f hf => ?_, ?_⟩
  · obtain ⟨p, _, rfl⟩ := List.mem_map.1 hf
    exact sF_ok ⟨by decide, by decide⟩ _
  · induction ps with
    | nil => simp [szL]
    | cons p ps ih =>
      have h1 := ih fun q hq => he q (by simp [hq])
      obtain ⟨m1, m2⟩ := met_ok (he p (by simp))
      have h3 : (metF p).B.length ≤ 6900 := sF_sz m1 m2 (by omega)
      rw [List.map_cons, szL_cons, List.length_cons]; omega
theorem Encode31 {ps : List api_Point} (hw : ∀ p ∈ ps, Wr p) (hn : ps.length ≤ 10000) : otlp_Encode ps = some (outE ps) ∧ ref31_Encode ps = some (outE ps) := by
  obtain ⟨l1, l2⟩ := enc_lp hw hn
  unfold otlp_Encode ref31_Encode outE
  rw [l1, l2]
  unfold lpE
  cases hf : ps.find? fun p => decide (badP p ≠ 0) with
  | some p => exact ⟨rfl, rfl⟩
  | none =>
    have he : ∀ p ∈ ps, EP p := fun p hp => by
      have b := List.find?_eq_none.1 hf p hp
      have b0 : badP p = 0 := by simpa using b
      have k := bad_zero.1 b0
      have w := hw p hp
      exact ⟨k.1, k.2, w.o, w.pp, w.pn⟩
    obtain ⟨m1, m2⟩ := mets_ok he
    simp only [flow_go]
    by_cases h0 : ps = []
    · subst h0
      exact ⟨rfl, rfl⟩
    · have hl : ps.length ≠ 0 := fun e => h0 (List.eq_nil_of_length_eq_zero e)
      have hs : szL [sF 1 (ps.map metF)] ≤ 100000000 := by
        have := sF_sz (n := 1) m1 m2 (by omega)
        rw [szL_cons, szL_nil]; omega
      have ho : ∀ f ∈ [sF 1 (ps.map metF)], FOk f := ok_cons (sF_ok ⟨by decide, by decide⟩ _) ok_nil
      have hb := encL_le ho hs
      rw [if_neg h0, bifFd (by rw [List.length_map]; omega), bifFd (by rw [List.length_map]; omega), sub_eq m1 (by omega), rsub_eq m1 (by omega), bind_some, bind_some,
        Encode_eq ho (by omega) (by simp), REncode_eq ho (by omega) (by simp), bind_some]
      exact ⟨rfl, rfl⟩
/-! ### reading -/
theorem fail_eq (r : otlp_reader) (b : Bool) (n : Int) : otlp_reader_fail r b n = some (if b = true ∧ r.e = 0 then ⟨n, r.out⟩ else r) := by
  unfold otlp_reader_fail
  by_cases h : b = true ∧ r.e = 0
  · rw [if_pos h, bifT (by simp [h.1, h.2])]
  · rw [if_neg h, bifF (by
      cases b
      · rfl
      · have : r.e ≠ 0 := fun q => h ⟨rfl, q⟩
        simp [this])]
theorem fail_no (r : otlp_reader) (n : Int) : otlp_reader_fail r false n = some r := by rw [fail_eq, if_neg (by simp)]
/-- a field that is not of the kind that is looked for -/
def badW (want : List (Int × Int)) (f : api_Fld) : Bool := (mget want f.Num).isSome && !decide ((mget want f.Num).getD 0 = f.Type_)
theorem open_lp (r : otlp_reader) (want : List (Int × Int)) (l : List api_Fld) (hl : l.length ≤ 100000000) (hg : l.any (badW want) = false) : loop (otlp_reader_open_lp1 r want l) (0, 0) = some (.go 0) := by
  have L := loop_for (f := otlp_reader_open_lp1 r want l) (fun i => (0, (i : Int))) l.length (b := 0) (fun i hi => by
    have hb : badW want l[i] = false := by
      rw [List.any_eq_false] at hg
      have := hg _ (List.getElem_mem hi)
      simpa using this
    unfold otlp_reader_open_lp1
    dsimp only
    rw [bifTd (by omega), idx_nat hi, bind_some, lett_eq, lett_eq]
    unfold badW at hb
    rw [hb, fail_no, bind_some, w64_succ (by omega)]) (by
    unfold otlp_reader_open_lp1
    dsimp only
    rw [bifFd (by omega)])
  exact L
theorem open_good {b : List UInt8} {l : List api_Fld} {want : List (Int × Int)} {out : List api_Point} (hd : wire_Decode b = some (l, 0, 0)) (hl : l.length ≤ 100000000) (hg : l.any (badW want) = false) :
    otlp_reader_open ⟨0, out⟩ b want = some (l, ⟨0, out⟩) := by
  unfold otlp_reader_open
  dsimp only
  rw [bifF (by rfl), hd, bind_some]
  dsimp only
  rw [show (!decide ((0 : Int) = 0)) = false from rfl, fail_no, bind_some]
  dsimp only
  rw [open_lp _ _ _ hl hg, flow_go, bind_some]; rfl
theorem All31 {l : List api_Fld} (hl : l.length ≤ 100000000) (hb : ∀ (i : Nat) (h : i < l.length), (l[i]).B.length ≤ 100000000) (n : Int) : wire_All l n = some (withN l n) := by
  have key : ∀ (m i : Nat), i + m = l.length → loop (wire_All_lp1 l n) (withN (l.take i) n, (i : Int)) = some (.go (withN l n)) := by
    intro m
    induction m with
    | zero =>
      intro i hi
      refine loop_brk ?_
      unfold wire_All_lp1
      dsimp only
      rw [bifFd (by omega), List.take_of_length_le (by omega)]
    | succ m ih =>
      intro i hi
      have hlt : i < l.length := by omega
      have ht : l.take (i + 1) = l.take i ++ [l[i]] := by rw [List.take_add_one, List.getElem?_eq_getElem hlt]; rfl
      have hlen := withN_len (l.take i) n
      rw [List.length_take] at hlen
      have hbi := hb i hlt
      have i2 := ih (i + 1) (by omega)
      rw [ht, withN_snoc] at i2
      by_cases hN : (l[i]).Num = n
      · rw [if_pos hN] at i2
        rw [← i2]
        refine loop_next ?_
        unfold wire_All_lp1
        dsimp only
        rw [bifTd (by omega), idx_nat hlt, bind_some, bifTd hN, bclone_eq (by omega), bind_some, app_ok (by simp only [List.length_singleton]; omega), bind_some, bind_some, w64_succ (by omega)]
      · rw [if_neg hN, List.append_nil] at i2
        rw [← i2]
        refine loop_next ?_
        unfold wire_All_lp1
        dsimp only
        rw [bifTd (by omega), idx_nat hlt, bind_some, bifFd hN, bind_some, w64_succ (by omega)]
  have k2' : loop (wire_All_lp1 l n) ([], 0) = _ := key l.length 0 (by omega)
  unfold wire_All
  rw [k2']; rfl
def lastN (l : List api_Fld) (n : Int) : api_Fld := (withN l n).getLast?.getD F0
theorem last_eq {l : List api_Fld} (hl : l.length ≤ 100000000) (hb : ∀ (i : Nat) (h : i < l.length), (l[i]).B.length ≤ 100000000) (n : Int) : otlp_last l n = some (lastN l n) := by
  have h := withN_len l n
  unfold otlp_last wire_Last lastN
  rw [All31 hl hb, bind_some]
  by_cases e : withN l n = []
  · rw [e]; rfl
  · have hp := List.length_pos_iff.2 e
    rw [bifFd (by omega), w64_id (by omega) (by omega), show ((withN l n).length : Int) - 1 = (((withN l n).length - 1 : Nat) : Int) by omega, idx_nat (by omega), bind_some, bind_some, List.getLast?_eq_getElem?, List.getElem?_eq_getElem (by omega)]; rfl
/-- the fields of a text that was written, whatever its size -/
theorem field_back' {f : api_Fld} (h : FOk f) (hb : f.B.length ≤ 100000000) (r : List UInt8) : fieldS (encF f ++ r) = (0, f, (encF f).length) := by
  have a := h.n1; have b := h.n2; have t := h.t
  have ev : ∀ v : UInt64, UInt64.ofNat v.toNat = v := fun v => UInt64.toNat_inj.1 (by rw [UInt64.toNat_ofNat']; have := UInt64.toNat_lt v; omega)
  obtain ⟨tag, htag⟩ : ∃ tag, tag = (8 * f.Num + f.Type_).toNat := ⟨_, rfl⟩
  have hE : encF f = varL tag ++ (if f.Type_ = 0 then varL f.V.toNat else if f.Type_ = 1 then eightL f.V.toNat else varL f.B.length ++ f.B) := by rw [htag]; rfl
  have hm : tag % 8 = f.Type_.toNat := by omega
  have hd : ((tag / 8 : Nat) : Int) = f.Num := by omega
  have hg : ∀ q, gv (varL tag ++ q) = (UInt64.ofNat tag, ((varL tag).length : Int), 0) := fun q => gv_var (by omega) q
  have et : (UInt64.ofNat tag).toNat = tag := by rw [UInt64.toNat_ofNat']; omega
  have hn : (((varL tag).length : Nat) : Int).toNat = (varL tag).length := by omega
  rw [hE, List.append_assoc]
  generalize hq : (if f.Type_ = 0 then varL f.V.toNat else if f.Type_ = 1 then eightL f.V.toNat else varL f.B.length ++ f.B) = Q
  have hdr : (varL tag ++ (Q ++ r)).drop (varL tag).length = Q ++ r := List.drop_left
  unfold fieldS
  rw [hg]
  dsimp only
  rw [if_neg (by decide), et, hm, if_neg (by omega), if_neg (by omega), hn, hdr]
  by_cases t1 : f.Type_ = 1
  · rw [if_neg (by omega), if_pos t1] at hq
    have l8 : Q.length = 8 := by rw [← hq]; exact eight_len _
    have tk : (Q ++ r).take 8 = Q := by rw [← l8]; exact List.take_left
    rw [if_pos (by omega), if_neg (by rw [List.length_append, List.length_append]; omega), tk, ← hq, le8_eight (UInt64.toNat_lt _), ev, List.length_append, eight_len, hd]
    have := h.b (by omega)
    obtain ⟨fn, ft, fv, fb⟩ := f
    dsimp only at *
    rw [this, t1]
  rw [if_neg (by omega)]
  by_cases t0 : f.Type_ = 0
  · rw [if_pos t0] at hq
    rw [← hq, gv_var (UInt64.toNat_lt _)]
    dsimp only
    rw [if_neg (by decide), if_pos (by omega), ev, hd, List.length_append]
    have := h.b (by omega)
    obtain ⟨fn, ft, fv, fb⟩ := f
    dsimp only at *
    rw [this, t0]; rfl
  · have t2 : f.Type_ = 2 := by omega
    rw [if_neg t0, if_neg t1] at hq
    have hg2 : gv (Q ++ r) = (UInt64.ofNat f.B.length, ((varL f.B.length).length : Int), 0) := by rw [← hq, List.append_assoc]; exact gv_var (by omega) _
    have el : (UInt64.ofNat f.B.length).toNat = f.B.length := by rw [UInt64.toNat_ofNat']; omega
    have hn2 : (((varL f.B.length).length : Nat) : Int).toNat = (varL f.B.length).length := by omega
    have tk : ((varL tag ++ (Q ++ r)).drop ((varL tag).length + (varL f.B.length).length)).take f.B.length = f.B := by
      rw [← List.drop_drop, hdr, ← hq, List.append_assoc, List.drop_left, List.take_left]
    have lQ : Q.length = (varL f.B.length).length + f.B.length := by rw [← hq, List.length_append]
    rw [hg2]
    dsimp only
    rw [if_neg (by decide), if_neg (by omega), el, hn2, if_neg (by rw [List.length_append, List.length_append]; omega), tk, hd, List.length_append, lQ, Nat.add_assoc]
    have := h.v t2
    obtain ⟨fn, ft, fv, fb⟩ := f
    dsimp only at *
    rw [this, t2]
theorem encF_pos (f : api_Fld) : 1 ≤ (encF f).length := by
  unfold encF
  rw [List.length_append]
  have := varL_pos (8 * f.Num + f.Type_).toNat
  omega
theorem encF_ge {f : api_Fld} (h : FOk f) : f.B.length + 1 ≤ (encF f).length := by
  unfold encF
  rw [List.length_append]
  have h1 := varL_pos (8 * f.Num + f.Type_).toNat
  have t := h.t
  by_cases h2 : f.Type_ = 2
  · rw [if_neg (by omega), if_neg (by omega), List.length_append]; omega
  · rw [h.b h2, List.length_nil]; omega
theorem encL_ge {l : List api_Fld} (h : ∀ f ∈ l, FOk f) : l.length ≤ (encL l).length ∧ ∀ f ∈ l, f.B.length < (encL l).length := by
  induction l with
  | nil => exact ⟨Nat.zero_le _, fun _ q => by cases q⟩
  | cons f l ih =>
    obtain ⟨i1, i2⟩ := ih fun g hg => h g (by simp [hg])
    have hf := encF_ge (h f (by simp))
    have hp := encF_pos f
    rw [encL_cons, List.length_append, List.length_cons]
    refine ⟨by omega, fun g hg => ?_⟩
    rcases List.mem_cons.1 hg with rfl | hg
    · omega
    · have := i2 g hg; omega
theorem Decode31 {l : List api_Fld} (hf : ∀ f ∈ l, FOk f) (hl : (encL l).length ≤ 100000000) : wire_Decode (encL l) = some (l, 0, 0) := by
  obtain ⟨hn, hB⟩ := encL_ge hf
  have hb : ∀ f ∈ l, FOk f ∧ f.B.length ≤ 100000000 := fun f hm => ⟨hf f hm, by have := hB f hm; omega⟩
  have key : ∀ (m i : Nat), i + m = l.length → loop (wire_Decode_lp1 (encL l)) (l.take i, (((encL (l.take i)).length : Nat) : Int)) = some (.go l) := by
    intro m
    induction m with
    | zero =>
      intro i hi
      rw [List.take_of_length_le (by omega)]
      refine loop_brk ?_
      unfold wire_Decode_lp1
      dsimp only
      rw [bifFd (by omega)]
    | succ m ih =>
      intro i hi
      have hlt : i < l.length := by omega
      have ht : l.take (i + 1) = l.take i ++ [l[i]] := by rw [List.take_add_one, List.getElem?_eq_getElem hlt]; rfl
      have hs : encL l = encL (l.take i) ++ (encF l[i] ++ encL (l.drop (i + 1))) := by
        rw [← List.append_assoc, ← encL_snoc, ← ht]
        unfold encL
        rw [← List.flatMap_append, List.take_append_drop]
      have okf := hb _ (List.getElem_mem hlt)
      have hdr : (encL l).drop (encL (l.take i)).length = encF l[i] ++ encL (l.drop (i + 1)) := by
        conv => lhs; rw [hs]
        exact List.drop_left
      have hpos := encF_pos l[i]
      have hlen := congrArg List.length hs
      simp only [List.length_append] at hlen
      have st := Wdec_step (b := encL l) (at_ := (encL (l.take i)).length) (by omega) (by omega) (l.take i) (by rw [List.length_take]; omega)
      rw [hdr, field_back' okf.1 okf.2] at st
      rw [if_pos rfl] at st
      dsimp only at st
      rw [loop_next st, ← ht]
      have e2 : (encL (l.take i)).length + (encF l[i]).length = (encL (l.take (i + 1))).length := by rw [ht, encL_snoc, List.length_append]
      rw [e2]
      exact ih (i + 1) (by omega)
  have k0 : loop (wire_Decode_lp1 (encL l)) ([], 0) = _ := key l.length 0 (by omega)
  unfold wire_Decode
  rw [k0, flow_go]
/-- a row that was written, opened -/
theorem open31 {l : List api_Fld} {want : List (Int × Int)} {out : List api_Point} (hf : ∀ f ∈ l, FOk f) (hs : szL l ≤ 100000000) (hg : l.any (badW want) = false) : otlp_reader_open ⟨0, out⟩ (encL l) want = some (l, ⟨0, out⟩) := by
  have h1 := encL_le hf hs
  obtain ⟨h2, _⟩ := encL_ge hf
  exact open_good (Decode31 hf (by omega)) (by omega) hg
theorem bsz {l : List api_Fld} {k : Nat} (hs : szL l ≤ k) : l.length ≤ k ∧ ∀ (i : Nat) (h : i < l.length), (l[i]).B.length ≤ k := by
  induction l generalizing k with
  | nil => exact ⟨Nat.zero_le _, fun i h => by cases h⟩
  | cons f l ih =>
    rw [szL_cons] at hs
    obtain ⟨h1, h2⟩ := ih (k := k - 20 - f.B.length) (by omega)
    refine ⟨by rw [List.length_cons]; omega, fun i h => ?_⟩
    cases i with
    | zero => show f.B.length ≤ k; omega
    | succ i =>
      have hi : i < l.length := by rw [List.length_cons] at h; omega
      have := h2 i hi
      show (l[i]).B.length ≤ k; omega
theorem all31 {l : List api_Fld} (hs : szL l ≤ 100000000) (n : Int) : wire_All l n = some (withN l n) := by
  obtain ⟨h1, h2⟩ := bsz hs
  exact All31 (by omega) (fun i h => by have := h2 i h; omega) n
theorem last31 {l : List api_Fld} (hs : szL l ≤ 100000000) (n : Int) : otlp_last l n = some (lastN l n) := by
  obtain ⟨h1, h2⟩ := bsz hs
  exact last_eq (by omega) (fun i h => by have := h2 i h; omega) n
end Go.Lg
namespace Go.Lg
attribute [local irreducible] w64 toU64 toU8 shlU shrU shlB shrB
theorem attrs_loop {r : otlp_reader} {l : List api_Pair} (h : ∀ a ∈ l, a.Key.length ≤ 32 ∧ a.Val.length ≤ 32) (hl : l.length ≤ 1000) :
    loop (otlp_reader_attrs_lp1 r (l.map attrF)) (0, [], 0) = some (.go (0, l)) := by
  have L := loop_for (f := otlp_reader_attrs_lp1 r (l.map attrF)) (fun i => (0, l.take i, (i : Int))) l.length (b := (0, l)) (fun i hi => by
    have hm : i < (l.map attrF).length := by rw [List.length_map]; exact hi
    have hb := h _ (List.getElem_mem hi)
    have hs := attr_sz hb.1 hb.2
    have ht : l.take (i + 1) = l.take i ++ [l[i]] := by rw [List.take_add_one, List.getElem?_eq_getElem hi]; rfl
    have hB : (attrF l[i]).B = encL (attrL l[i]) := rfl
    have w1 : lastN (attrL l[i]) 1 = bF 1 l[i].Key := rfl
    have w2 : lastN (attrL l[i]) 2 = bF 2 l[i].Val := rfl
    unfold otlp_reader_attrs_lp1
    dsimp only
    rw [bifTd (by omega), idx_nat hm, bind_some, List.getElem_map, hB, open31 (attr_ok _) (by omega) rfl, bind_some]
    dsimp only
    rw [last31 (by omega), bind_some, last31 (by omega), bind_some, bind_some, w1, w2, app_ok (by rw [List.length_take]; simp only [List.length_singleton]; omega), bind_some, w64_succ (by omega), ht]; rfl) (by
    unfold otlp_reader_attrs_lp1
    dsimp only
    rw [bifFd (by rw [List.length_map]; omega), List.take_of_length_le (by omega)])
  exact L
theorem attrs31 {out : List api_Point} {l : List api_Pair} (h : ∀ a ∈ l, a.Key.length ≤ 32 ∧ a.Val.length ≤ 32) (hl : l.length ≤ 1000) :
    otlp_reader_attrs ⟨0, out⟩ (l.map attrF) = some (l, ⟨0, out⟩) := by
  unfold otlp_reader_attrs
  dsimp only
  rw [attrs_loop h hl, flow_go]
theorem grow31 {n : Int} (h : 0 ≤ n) (h2 : n ≤ 17179869184) : slices_Grow_api_Pair_api_Pair n = some [] := by
  unfold slices_Grow_api_Pair_api_Pair
  rw [bifT (by simp [h, h2])]
theorem concat31 {a b : List api_Pair} (ha : a.length ≤ 100000000) (hb : b.length ≤ 100000000) : slices_Concat_api_Pair_api_Pair [a, b] = some (a ++ b) := by
  have e2 : (([a, b] : List (List api_Pair)).length : Int) = 2 := rfl
  have i0 : idx [a, b] 0 = some a := rfl
  have i1 : idx [a, b] 1 = some b := rfl
  have L1 : loop (slices_Concat_api_Pair_api_Pair_lp1 [a, b]) (0, 0) = some (.go ((a.length + b.length : Nat) : Int)) := by
    refine (loop_next (s' := (((a.length : Nat) : Int), 1)) ?_).trans ((loop_next (s' := (((a.length + b.length : Nat) : Int), 2)) ?_).trans (loop_brk ?_))
    · unfold slices_Concat_api_Pair_api_Pair_lp1
      dsimp only
      rw [bifTd (by omega), i0, bind_some, lett_eq, w64_id (by omega) (by omega), bifFd (by omega), bind_some, Int.zero_add, w64_id (by omega) (by omega)]; rfl
    · unfold slices_Concat_api_Pair_api_Pair_lp1
      dsimp only
      rw [bifTd (by omega), i1, bind_some, lett_eq, w64_id (by omega) (by omega), bifFd (by omega), bind_some, w64_id (by omega) (by omega)]
      congr 3
    · unfold slices_Concat_api_Pair_api_Pair_lp1
      dsimp only
      rw [bifFd (by omega)]
  have L2 : loop (slices_Concat_api_Pair_api_Pair_lp2 [a, b]) ([], 0) = some (.go (a ++ b)) := by
    refine (loop_next (s' := (a, 1)) ?_).trans ((loop_next (s' := (a ++ b, 2)) ?_).trans (loop_brk ?_))
    · unfold slices_Concat_api_Pair_api_Pair_lp2
      dsimp only
      rw [bifTd (by omega), i0, bind_some, app_ok (by rw [List.length_nil]; omega), bind_some, w64_id (by omega) (by omega)]; rfl
    · unfold slices_Concat_api_Pair_api_Pair_lp2
      dsimp only
      rw [bifTd (by omega), i1, bind_some, app_ok (by omega), bind_some, w64_id (by omega) (by omega)]; rfl
    · unfold slices_Concat_api_Pair_api_Pair_lp2
      dsimp only
      rw [bifFd (by omega)]
  unfold slices_Concat_api_Pair_api_Pair
  rw [L1, flow_go, bind_some, grow31 (by omega) (by omega), bind_some, L2, flow_go]
theorem contains31 {l : List Int} (hl : l.length ≤ 1000) (n : Int) : slices_Contains_int_int l n = some (l.any fun x => decide (x = n)) := by
  have key : ∀ (m i : Nat), i + m = l.length → ∃ q, loop (slices_Index_int_int_lp1 l n) (i : Int) = some q ∧ (((l.drop i).any fun x => decide (x = n)) = false ∧ q = .go () ∨ ((l.drop i).any fun x => decide (x = n)) = true ∧ ∃ k : Nat, q = .out (k : Int)) := by
    intro m
    induction m with
    | zero =>
      intro i hi
      refine ⟨.go (), loop_brk ?_, .inl ⟨by rw [List.drop_of_length_le (by omega)]; rfl, rfl⟩⟩
      unfold slices_Index_int_int_lp1
      try dsimp only
      rw [bifFd (by omega)]
    | succ m ih =>
      intro i hi
      have hlt : i < l.length := by omega
      rw [List.drop_eq_getElem_cons hlt, List.any_cons]
      by_cases e : n = l[i]
      · refine ⟨.out (i : Int), loop_out ?_, .inr ⟨by simp [e], i, rfl⟩⟩
        unfold slices_Index_int_int_lp1
        try dsimp only
        rw [bifTd (by omega), idx_nat hlt, bind_some, bifTd e]; rfl
      · obtain ⟨q, h1, h2⟩ := ih (i + 1) (by omega)
        rw [decide_eq_false (p := l[i] = n) (fun z => e z.symm), Bool.false_or]
        refine ⟨q, (loop_next ?_).trans h1, h2⟩
        unfold slices_Index_int_int_lp1
        try dsimp only
        rw [bifTd (by omega), idx_nat hlt, bind_some, bifFd e, w64_succ (by omega)]
  obtain ⟨q, h1, h2⟩ := key l.length 0 (by omega)
  rw [List.drop_zero] at h2
  have h1' : loop (slices_Index_int_int_lp1 l n) 0 = _ := h1
  unfold slices_Contains_int_int slices_Index_int_int
  rw [h1']
  rcases h2 with ⟨h2, rfl⟩ | ⟨h2, k, rfl⟩
  · rw [h2, flow_go, bind_some, lett_eq]; rfl
  · rw [h2, flow_out, bind_some, lett_eq, decide_eq_true (by omega)]
theorem has31 {l : List api_Fld} (hl : l.length ≤ 100000000) {ns : List Int} (hn : ns.length ≤ 1000) : otlp_has l ns = some (l.any fun f => ns.any fun x => decide (x = f.Num)) := by
  have key : ∀ (m i : Nat), i + m = l.length → ∃ q, loop (otlp_has_lp1 l ns) (i : Int) = some q ∧ (((l.drop i).any fun f => ns.any fun x => decide (x = f.Num)) = false ∧ q = .go () ∨ ((l.drop i).any fun f => ns.any fun x => decide (x = f.Num)) = true ∧ ∃ k : Nat, q = .out (k : Int)) := by
    intro m
    induction m with
    | zero =>
      intro i hi
      refine ⟨.go (), loop_brk ?_, .inl ⟨by rw [List.drop_of_length_le (by omega)]; rfl, rfl⟩⟩
      unfold otlp_has_lp1
      try dsimp only
      rw [bifFd (by omega)]
    | succ m ih =>
      intro i hi
      have hlt : i < l.length := by omega
      rw [List.drop_eq_getElem_cons hlt, List.any_cons]
      cases e : ns.any fun x => decide (x = l[i].Num)
      · obtain ⟨q, h1, h2⟩ := ih (i + 1) (by omega)
        rw [Bool.false_or]
        refine ⟨q, (loop_next ?_).trans h1, h2⟩
        unfold otlp_has_lp1
        try dsimp only
        rw [bifTd (by omega), idx_nat hlt, bind_some, contains31 hn, bind_some, e, bind_some, bifF rfl, w64_succ (by omega)]
      · refine ⟨.out (i : Int), loop_out ?_, .inr ⟨rfl, i, rfl⟩⟩
        unfold otlp_has_lp1
        try dsimp only
        rw [bifTd (by omega), idx_nat hlt, bind_some, contains31 hn, bind_some, e, bind_some, bifT rfl]; rfl
  obtain ⟨q, h1, h2⟩ := key l.length 0 (by omega)
  rw [List.drop_zero] at h2
  have h1' : loop (otlp_has_lp1 l ns) 0 = _ := h1
  unfold otlp_has
  rw [h1']
  rcases h2 with ⟨h2, rfl⟩ | ⟨h2, k, rfl⟩
  · rw [h2, flow_go, bind_some, lett_eq, bind_some]; rfl
  · rw [h2, flow_out, bind_some, lett_eq, decide_eq_true (by omega), bind_some]
end Go.Lg
namespace Go.Lg
attribute [local irreducible] w64 toU64 toU8 shlU shrU shlB shrB
def p31 (fl : Int) : api_Point := ⟨[120], [⟨[97], [49]⟩], 1, 2, false, 0, 10, -5, 0, 0, H0, fl⟩
theorem p31_chk {fl : Int} (h : 0 ≤ fl ∧ fl ≤ 31) : chkE (p31 fl) = 0 := by
  refine chk_of (show labelE [120] [⟨[97], [49]⟩] = 0 by decide) ?_ (fun e => by cases e) ?_ ?_ (fun e => by cases e) (fun e => by cases e) (fun e => by cases e)
  · unfold KindP p31; dsimp only; omega
  · unfold TimeP p31; dsimp only; omega
  · unfold OwnP p31; dsimp only; exact ⟨.inl rfl, .inr rfl, .inr rfl, .inr rfl, h⟩
theorem p31_wr (fl : Int) : Wr (p31 fl) := ⟨H0_ok, Nat.zero_le _, Nat.zero_le _⟩
theorem p31_ep : EP (p31 0) := ⟨p31_chk (by omega), rfl, H0_ok, Nat.zero_le _, Nat.zero_le _⟩
def f31 : List api_Fld := [xF 2 (toU64 0), xF 3 (toU64 10), xF 6 (toU64 (-5)), attrF ⟨[97], [49]⟩]
theorem f31_eq : fieldsF (p31 0) = f31 := rfl
theorem t31 : toU64 (w64 (3 - 2)) = 2 - 1 := by
  rw [w64_id (by omega) (by omega), show (3 : Int) - 2 = ((1 : Nat) : Int) from rfl, toU64_n (by omega)]; rfl
theorem u0 : (toU64 0).toNat = 0 := toU64_nat (x := 0) (by omega)
theorem u10 : (toU64 10).toNat = 10 := toU64_nat (x := 10) (by omega)
theorem um5 : w64 ((toU64 (-5)).toNat : Int) = -5 := sg_toU64 (x := -5) (by unfold I64; omega)
theorem lp4_31 {out : List api_Point} (ho : out.length ≤ 1000) : loop (otlp_Decode_lp4 [] 2 F0 (bF 1 [120]) 2 [sF 1 f31]) (0, out, 0) = some (.go (0, out ++ [p31 0])) := by
  have e := p31_ep
  obtain ⟨f1, f2⟩ := fields_ok e
  rw [f31_eq] at f1 f2
  have hl : f31.length = 4 := rfl
  have w2 : lastN f31 2 = xF 2 (toU64 0) := rfl
  have w3 : lastN f31 3 = xF 3 (toU64 10) := rfl
  have w4 : lastN f31 4 = F0 := rfl
  have w6 : lastN f31 6 = xF 6 (toU64 (-5)) := rfl
  have w31 : lastN f31 31 = F0 := rfl
  have a4 : withN f31 4 = [] := rfl
  have a6 : withN f31 6 = [xF 6 (toU64 (-5))] := rfl
  have a7 : withN f31 7 = [⟨[97], [49]⟩].map attrF := rfl
  have hform : otlp_form f31 2 = some true := by
    unfold otlp_form
    rw [all31 (by omega), bind_some, all31 (by omega), bind_some, a4, a6, lett_eq, lett_eq, lett_eq, w64_id (by decide) (by decide), bifF (by decide), lett_eq, bifF (by decide), bifT (by decide), has31 (by omega) (by decide), bind_some, bind_some, bifF (by decide), bifT (by decide), has31 (by omega) (by decide), bind_some, bind_some, bifF (by decide), lett_eq, bifF (by decide)]
  have hp : api_Point.mk [120] [⟨[97], [49]⟩] 1 2 (decide (F0.V = 1)) (w64 ((toU64 0).toNat : Int)) (w64 ((toU64 10).toNat : Int)) (-5) F0.V F0.V (api_Hist.mk 0 0 (api_Side.mk 0 []) (api_Side.mk 0 [])) 0 = p31 0 := by
    rw [u0, u10, w64_id (by omega) (by omega), w64_id (by omega) (by omega)]; rfl
  refine (loop_next (s' := (0, out ++ [p31 0], 1)) ?_).trans (loop_brk ?_)
  · unfold otlp_Decode_lp4
    dsimp only
    have hB : (sF 1 f31).B = encL f31 := rfl
    rw [bifTd (by decide), show idx [sF 1 f31] 0 = some (sF 1 f31) from rfl, bind_some, hB, open31 f1 (by omega) (by rfl), bind_some]
    dsimp only
    rw [hform, bind_some, show (!true) = false from rfl, fail_no, bind_some, last31 (by omega), bind_some, last31 (by omega), bind_some, w2, w3]
    have hv2 : (xF 2 (toU64 0)).V = toU64 0 := rfl
    have hv3 : (xF 3 (toU64 10)).V = toU64 10 := rfl
    have hv6 : (xF 6 (toU64 (-5))).V = toU64 (-5) := rfl
    have n53 : (9007199254740992 : UInt64).toNat = 9007199254740992 := rfl
    have hc : ((decide (9007199254740992 < (xF 2 (toU64 0)).V)) || (decide (9007199254740992 < (xF 3 (toU64 10)).V))) = false := by
      rw [hv2, hv3, decide_eq_false, decide_eq_false]; rfl
      · rw [UInt64.lt_iff_toNat_lt, u10, n53]; omega
      · rw [UInt64.lt_iff_toNat_lt, u0, n53]; omega
    rw [hc, fail_no, bind_some]
    dsimp only
    rw [bifF (by rfl), lett_eq, lett_eq, all31 (by omega), bind_some, a7, attrs31 (by decide) (by decide), bind_some]
    dsimp only
    rw [concat31 (by decide) (by decide), bind_some, List.nil_append, sorted_eq _ (by decide), bind_some, has31 (by omega) (by decide), bind_some, bifT (by rfl), last31 (by omega), bind_some, w6, hv6, um5, lett_eq, bind_some]
    dsimp only
    rw [last31 (by omega), bind_some, last31 (by omega), bind_some, w4, w31, bifFd (by decide), bind_some]
    dsimp only
    rw [bifTd rfl, hv2, hv3, show (bF 1 [120]).B = [120] from rfl, show srt [⟨[97], [49]⟩] = [⟨[97], [49]⟩] from rfl, hp, chk_eq e.o, e.c, bind_some, show (!decide ((0 : Int) = 0)) = false from rfl, fail_no, bind_some, bind_some, bifTd rfl, app_ok (by simp only [List.length_singleton]; omega), bind_some, bind_some]
    dsimp only
    rw [w64_id (by omega) (by omega)]; rfl
  · unfold otlp_Decode_lp4
    dsimp only
    rw [bifFd (by decide)]
def m31 : api_Fld := metF (p31 0)
theorem d31 : dataF (p31 0) = [sF 1 f31, vF 2 (toU64 (w64 (3 - 2)))] := rfl
theorem lp3_31 {l : List api_Fld} (hs : szL l ≤ 10000) : loop (otlp_Decode_lp3 l) ([], 0) = some (.go (withN l 5 ++ withN l 7 ++ withN l 10 ++ withN l 30)) := by
  have hl := (bsz hs).1
  have q5 := withN_len l 5; have q7 := withN_len l 7; have q10 := withN_len l 10; have q30 := withN_len l 30
  refine (loop_next (s' := (withN l 5, 1)) ?_).trans ((loop_next (s' := (withN l 5 ++ withN l 7, 2)) ?_).trans ((loop_next (s' := (withN l 5 ++ withN l 7 ++ withN l 10, 3)) ?_).trans ((loop_next (s' := (withN l 5 ++ withN l 7 ++ withN l 10 ++ withN l 30, 4)) ?_).trans (loop_brk ?_))))
  · unfold otlp_Decode_lp3
    dsimp only
    rw [bifTd (by decide), show idx ([5, 7, 10, 30] : List Int) 0 = some 5 from rfl, bind_some, all31 (by omega), bind_some, app_ok (by simp only [List.length_nil]; omega), bind_some, w64_id (by omega) (by omega)]; rfl
  · unfold otlp_Decode_lp3
    dsimp only
    rw [bifTd (by decide), show idx ([5, 7, 10, 30] : List Int) 1 = some 7 from rfl, bind_some, all31 (by omega), bind_some, app_ok (by omega), bind_some, w64_id (by omega) (by omega)]; rfl
  · unfold otlp_Decode_lp3
    dsimp only
    rw [bifTd (by decide), show idx ([5, 7, 10, 30] : List Int) 2 = some 10 from rfl, bind_some, all31 (by omega), bind_some, app_ok (by rw [List.length_append]; omega), bind_some, w64_id (by omega) (by omega)]; rfl
  · unfold otlp_Decode_lp3
    dsimp only
    rw [bifTd (by decide), show idx ([5, 7, 10, 30] : List Int) 3 = some 30 from rfl, bind_some, all31 (by omega), bind_some, app_ok (by rw [List.length_append, List.length_append]; omega), bind_some, w64_id (by omega) (by omega)]; rfl
  · unfold otlp_Decode_lp3
    dsimp only
    rw [bifFd (by decide)]
theorem lp2_31 {r : List api_Fld} {i : Nat} (hi : i < r.length) (hr : r.length ≤ 1000) (he : r[i] = m31) {out : List api_Point} (ho : out.length ≤ 1000) :
    otlp_Decode_lp2 r (0, out, [], (i : Int)) = some (.next (0, out ++ [p31 0], [], ((i + 1 : Nat) : Int))) := by
  have e := p31_ep
  obtain ⟨m1, m2⟩ := met_ok e
  obtain ⟨d1, d2⟩ := data_ok e
  have hm : metL (p31 0) = [bF 1 [120], sF 7 (dataF (p31 0))] := rfl
  rw [hm] at m1 m2
  have hB : m31.B = encL [bF 1 [120], sF 7 (dataF (p31 0))] := rfl
  have hB2 : (sF 7 (dataF (p31 0))).B = encL (dataF (p31 0)) := rfl
  generalize hD : dataF (p31 0) = D at *
  have hd : D = [sF 1 f31, vF 2 (toU64 (w64 (3 - 2)))] := hD.symm.trans d31
  have n1' : ((2 : UInt64) - 1).toNat = 1 := rfl
  have w2 : lastN D 2 = vF 2 (2 - 1) := by rw [hd, t31]; rfl
  have w3 : lastN D 3 = F0 := by rw [hd]; rfl
  have wa : withN D 1 = [sF 1 f31] := by rw [hd]; rfl
  have wn : lastN [bF 1 [120], sF 7 D] 1 = bF 1 [120] := rfl
  have hw : D.any (badW [(1, 2), (2, 0), (3, 0)]) = false := by rw [hd]; rfl
  unfold otlp_Decode_lp2
  dsimp only
  rw [bifTd (by omega), idx_nat hi, bind_some, he, hB, open31 m1 (by omega) (by rfl), bind_some]
  dsimp only
  rw [lp3_31 (by omega), flow_go, bind_some]
  rw [show withN [bF 1 [120], sF 7 D] 5 ++ withN [bF 1 [120], sF 7 D] 7 ++ withN [bF 1 [120], sF 7 D] 10 ++ withN [bF 1 [120], sF 7 D] 30 = [sF 7 D] from rfl,
    show (!decide ((([sF 7 D] : List api_Fld).length : Int) = 1)) = false from rfl, fail_no, bind_some]
  dsimp only
  rw [bifF (by rfl), show idx [sF 7 D] 0 = some (sF 7 D) from rfl, bind_some, lett_eq, bind_some, hB2, open31 d1 (by omega) hw, bind_some]
  dsimp only
  rw [last31 (by omega), bind_some, last31 (by omega), bind_some, w2, w3, show ((decide (2 < (vF 2 (2 - 1)).V)) || (decide (1 < F0.V))) = false from rfl, fail_no, bind_some]
  dsimp only
  rw [last31 (by omega), bind_some, wn, bifT (by rfl), lett_eq, bind_some, all31 (by omega), bind_some, wa]
  have ht : w64 ((((3 : UInt64) - (minU (vF 2 (2 - 1)).V (2 : UInt64))).toNat : Nat) : Int) = 2 := by
    rw [show ((3 : UInt64) - (minU (vF 2 (2 - 1)).V (2 : UInt64))).toNat = 2 from rfl, w64_id (by omega) (by omega)]; rfl
  have hk : (mget [(5, 3), (7, 2), (10, 4), (30, 5)] (sF 7 D).Num).getD 0 = 2 := rfl
  rw [ht, hk, lp4_31 ho, flow_go, bind_some]
  dsimp only
  rw [w64_succ (by omega)]
theorem lp1_31 : loop (otlp_Decode_lp1 [sF 1 [m31, m31]]) (0, [], 0) = some (.go (0, [p31 0, p31 0])) := by
  have e := p31_ep
  obtain ⟨m1, m2⟩ := mets_ok (ps := [p31 0, p31 0]) (fun p hp => by
    rcases List.mem_cons.1 hp with rfl | hp
    · exact e
    · rw [List.mem_singleton.1 hp]; exact e)
  have hm : [p31 0, p31 0].map metF = [m31, m31] := rfl
  rw [hm] at m1 m2
  have hl : ([p31 0, p31 0] : List api_Point).length = 2 := rfl
  have hB : (sF 1 [m31, m31]).B = encL [m31, m31] := rfl
  refine (loop_next (s' := (0, [p31 0, p31 0], 1)) ?_).trans (loop_brk ?_)
  · unfold otlp_Decode_lp1
    dsimp only
    rw [bifTd (by decide), show idx [sF 1 [m31, m31]] 0 = some (sF 1 [m31, m31]) from rfl, bind_some, hB, open31 m1 (by omega) (by rfl), bind_some]
    dsimp only
    rw [all31 (by omega), bind_some, show withN [m31, m31] 1 = [].map attrF from rfl, attrs31 (by decide) (by decide), bind_some]
    dsimp only
    rw [all31 (by omega), bind_some, show withN [m31, m31] 2 = [m31, m31] from rfl]
    have s0 := lp2_31 (r := [m31, m31]) (i := 0) (by decide) (by decide) rfl (out := []) (by decide)
    have s1 := lp2_31 (r := [m31, m31]) (i := 1) (by decide) (by decide) rfl (out := [p31 0]) (by decide)
    have L : loop (otlp_Decode_lp2 [m31, m31]) (0, [], [], 0) = some (.go (0, [p31 0, p31 0])) := by
      refine (loop_next s0).trans ((loop_next s1).trans (loop_brk ?_))
      unfold otlp_Decode_lp2
      dsimp only
      rw [bifFd (by decide)]; rfl
    rw [L, flow_go, bind_some]
    dsimp only
    rw [w64_id (by omega) (by omega)]; rfl
  · unfold otlp_Decode_lp1
    dsimp only
    rw [bifFd (by decide)]
theorem decode_31 : otlp_Decode (encL [sF 1 [m31, m31]]) = some ([p31 0, p31 0], 0) := by
  have e := p31_ep
  obtain ⟨m1, m2⟩ := mets_ok (ps := [p31 0, p31 0]) (fun p hp => by
    rcases List.mem_cons.1 hp with rfl | hp
    · exact e
    · rw [List.mem_singleton.1 hp]; exact e)
  have hm : [p31 0, p31 0].map metF = [m31, m31] := rfl
  rw [hm] at m1 m2
  have hl : ([p31 0, p31 0] : List api_Point).length = 2 := rfl
  have hz := sF_sz (n := 1) m1 m2 (by omega)
  have hs : szL [sF 1 [m31, m31]] ≤ 20000 := by rw [szL_cons, szL_nil]; omega
  unfold otlp_Decode
  rw [open31 (ok_cons (sF_ok ⟨by decide, by decide⟩ _) ok_nil) (by omega) (by rfl), bind_some]
  dsimp only
  rw [all31 (by omega), bind_some, show withN [sF 1 [m31, m31]] 1 = [sF 1 [m31, m31]] from rfl, lp1_31, flow_go, bind_some]
  dsimp only
  rw [bifF (by rfl)]
theorem decode_0 : otlp_Decode [] = some ([], 0) := by
  have h : otlp_reader_open ⟨0, []⟩ [] [(1, 2)] = some ([], ⟨0, []⟩) := open31 (l := []) ok_nil (by decide) rfl
  have L : loop (otlp_Decode_lp1 []) (0, [], 0) = some (.go (0, [])) := loop_brk (by
    unfold otlp_Decode_lp1
    dsimp only
    rw [bifFd (by decide)])
  unfold otlp_Decode
  rw [h, bind_some]
  dsimp only
  rw [all31 (by decide), bind_some, show withN [] 1 = [] from rfl, L, flow_go, bind_some]
  dsimp only
  rw [bifF (by rfl)]
theorem awake31 : law31_awake = some true := by
  have b0 : badP (p31 0) = 0 := bad_zero.2 ⟨p31_ep.c, rfl⟩
  have b1 : badP (p31 1) = 3 := by unfold badP; rw [if_pos (p31_chk (by omega)), if_neg (show (p31 1).Flags ≠ 0 by decide)]
  have e2 := (Encode31 (ps := [p31 0, p31 0]) (fun p hp => by
    rcases List.mem_cons.1 hp with rfl | hp
    · exact p31_wr 0
    · rw [List.mem_singleton.1 hp]; exact p31_wr 0) (by decide)).1
  have o2 : outE [p31 0, p31 0] = (encL [sF 1 [m31, m31]], 0) := by
    unfold outE
    rw [List.find?_cons, b0, show decide ((0 : Int) ≠ 0) = false from rfl, List.find?_cons, b0]; rfl
  have e1 := (Encode31 (ps := [p31 1]) (fun p hp => by rw [List.mem_singleton.1 hp]; exact p31_wr 1) (by decide)).1
  have o1 : outE [p31 1] = ([], 3) := by
    unfold outE
    rw [List.find?_cons, b1]; rfl
  rw [o2] at e2
  rw [o1] at e1
  have c2 : otlp_Encode [(api_Point.mk [120] [(api_Pair.mk [97] [49])] 1 2 false 0 10 (-5) 0 0 (api_Hist.mk 0 0 (api_Side.mk 0 []) (api_Side.mk 0 [])) 0), (api_Point.mk [120] [(api_Pair.mk [97] [49])] 1 2 false 0 10 (-5) 0 0 (api_Hist.mk 0 0 (api_Side.mk 0 []) (api_Side.mk 0 [])) 0)] = _ := e2
  have c1 : otlp_Encode [(api_Point.mk [120] [(api_Pair.mk [97] [49])] 1 2 false 0 10 (-5) 0 0 (api_Hist.mk 0 0 (api_Side.mk 0 []) (api_Side.mk 0 [])) 1)] = _ := e1
  unfold law31_awake
  rw [c2, bind_some]
  dsimp only
  rw [decode_31, bind_some]
  dsimp only
  rw [decode_0, bind_some]
  dsimp only
  rw [c1, bind_some]
  rfl
end Go.Lg
namespace Go.Lg
attribute [local irreducible] w64 toU64 toU8 shlU shrU shlB shrB
def canonP (p : api_Point) : api_Point := { p with Attrs := srt p.Attrs }
theorem withN_app (l m : List api_Fld) (n : Int) : withN (l ++ m) n = withN l n ++ withN m n := by unfold withN; rw [List.filter_append]
theorem with_attrs (l : List api_Pair) (n : Int) : withN (l.map attrF) n = if n = 7 then l.map attrF else [] := by
  unfold withN
  by_cases h : n = 7
  · rw [if_pos h, List.filter_eq_self]
    intro f hf
    obtain ⟨a, _, rfl⟩ := List.mem_map.1 hf
    rw [h]; rfl
  · rw [if_neg h, List.filter_eq_nil_iff]
    intro f hf
    obtain ⟨a, _, rfl⟩ := List.mem_map.1 hf
    have : (attrF a).Num = 7 := rfl
    rw [this, decide_eq_true_eq]; omega
theorem with_side (m : Int) (s : api_Side) (n : Int) : withN (sideF m s) n = if n = m then sideF m s else [] := by
  unfold sideF
  split
  · by_cases h : n = m
    · rw [if_pos h]; rfl
    · rw [if_neg h]; rfl
  · by_cases h : n = m
    · rw [if_pos h, h]; unfold withN; rw [List.filter_cons_of_pos (by simp [sF, bF])]; rfl
    · rw [if_neg h]; unfold withN; rw [List.filter_cons_of_neg (by rw [decide_eq_true_eq]; intro q; exact h (show n = m from q.symm))]; rfl
theorem with_one {f : api_Fld} {n : Int} : withN [f] n = if f.Num = n then [f] else [] := by
  unfold withN
  by_cases h : f.Num = n
  · rw [if_pos h, List.filter_cons_of_pos (by simp [h])]; rfl
  · rw [if_neg h, List.filter_cons_of_neg (by simp [h])]; rfl
theorem with_val (p : api_Point) (n : Int) : withN (valF p) n = if p.Kind = 1 then (if n = 6 then [xF 6 (toU64 p.Int_)] else []) else if p.Kind = 2 ∨ p.Kind = 3 ∨ p.Kind = 5 then (if n = 4 then [xF 4 p.Re] else []) else [] := by
  unfold valF
  split
  · rw [with_one]; show (if (6 : Int) = n then _ else _) = _
    by_cases h : n = 6
    · rw [if_pos h.symm, if_pos h]
    · rw [if_neg (fun q => h q.symm), if_neg h]
  split
  · rw [with_one]; show (if (4 : Int) = n then _ else _) = _
    by_cases h : n = 4
    · rw [if_pos h.symm, if_pos h]
    · rw [if_neg (fun q => h q.symm), if_neg h]
  · rfl
theorem with_tail (p : api_Point) (n : Int) : withN (tailF p) n = if p.Kind = 5 then (if n = 31 then [xF 31 p.Im] else []) else if p.Kind = 4 then
    (if n = 8 then [vF 8 (zU p.Hist.Scale)] else if n = 9 then [vF 9 p.Hist.Zero] else if n = 10 then sideF 10 p.Hist.Pos else if n = 11 then sideF 11 p.Hist.Neg else []) else [] := by
  unfold tailF
  split
  · rw [with_one]; show (if (31 : Int) = n then _ else _) = _
    by_cases h : n = 31
    · rw [if_pos h.symm, if_pos h]
    · rw [if_neg (fun q => h q.symm), if_neg h]
  split
  · have e : ([vF 8 (zU p.Hist.Scale), vF 9 p.Hist.Zero] : List api_Fld) = [vF 8 (zU p.Hist.Scale)] ++ [vF 9 p.Hist.Zero] := rfl
    rw [withN_app, withN_app, e, withN_app, with_one, with_one, with_side, with_side]
    show (if (8 : Int) = n then _ else _) ++ (if (9 : Int) = n then _ else _) ++ _ ++ _ = _
    by_cases h8 : n = 8
    · rw [if_pos h8.symm, if_neg (by omega), if_neg (by omega), if_neg (by omega), if_pos h8]; rfl
    by_cases h9 : n = 9
    · rw [if_neg (by omega), if_pos h9.symm, if_neg (by omega), if_neg (by omega), if_neg h8, if_pos h9]; rfl
    by_cases h10 : n = 10
    · rw [if_neg (by omega), if_neg (by omega), if_pos h10, if_neg (by omega), if_neg h8, if_neg h9, if_pos h10, List.append_nil]; rfl
    by_cases h11 : n = 11
    · rw [if_neg (by omega), if_neg (by omega), if_neg h10, if_pos h11, if_neg h8, if_neg h9, if_neg h10]; rfl
    · rw [if_neg (by omega), if_neg (by omega), if_neg h10, if_neg h11, if_neg h8, if_neg h9, if_neg h10]; rfl
  · rfl
theorem with_fields (p : api_Point) (n : Int) : withN (fieldsF p) n = (if n = 2 then [xF 2 (toU64 p.Start)] else if n = 3 then [xF 3 (toU64 p.Time)] else []) ++ withN (valF p) n ++ (if n = 7 then (srt p.Attrs).map attrF else []) ++ withN (tailF p) n := by
  unfold fieldsF
  have e : ([xF 2 (toU64 p.Start), xF 3 (toU64 p.Time)] : List api_Fld) = [xF 2 (toU64 p.Start)] ++ [xF 3 (toU64 p.Time)] := rfl
  rw [withN_app, withN_app, withN_app, with_attrs, e, withN_app, with_one, with_one]
  show (if (2 : Int) = n then _ else _) ++ (if (3 : Int) = n then _ else _) ++ _ ++ _ ++ _ = _
  by_cases h2 : n = 2
  · rw [if_pos h2.symm, if_neg (by omega), if_pos h2]; rfl
  by_cases h3 : n = 3
  · rw [if_neg (by omega), if_pos h3.symm, if_neg h2, if_pos h3]; rfl
  · rw [if_neg (by omega), if_neg (by omega), if_neg h2, if_neg h3]; rfl
section
variable {p : api_Point} (e : EP p)
theorem wF2 : withN (fieldsF p) 2 = [xF 2 (toU64 p.Start)] := by
  rw [with_fields, with_val, with_tail]
  simp
theorem wF3 : withN (fieldsF p) 3 = [xF 3 (toU64 p.Time)] := by
  rw [with_fields, with_val, with_tail]
  simp
theorem wF7 : withN (fieldsF p) 7 = (srt p.Attrs).map attrF := by
  rw [with_fields, with_val, with_tail]
  simp
theorem wF6 : withN (fieldsF p) 6 = if p.Kind = 1 then [xF 6 (toU64 p.Int_)] else [] := by
  rw [with_fields, with_val, with_tail]
  by_cases h : p.Kind = 1
  · simp [h]
  · simp [h]
theorem wF4 : withN (fieldsF p) 4 = if p.Kind = 2 ∨ p.Kind = 3 ∨ p.Kind = 5 then [xF 4 p.Re] else [] := by
  rw [with_fields, with_val, with_tail]
  by_cases h : p.Kind = 1
  · simp [h]
  · simp [h]
theorem wF31 : withN (fieldsF p) 31 = if p.Kind = 5 then [xF 31 p.Im] else [] := by
  rw [with_fields, with_val, with_tail]
  simp
theorem wF8 : withN (fieldsF p) 8 = if p.Kind = 4 then [vF 8 (zU p.Hist.Scale)] else [] := by
  rw [with_fields, with_val, with_tail]
  by_cases h : p.Kind = 4 <;> simp [h]
theorem wF9 : withN (fieldsF p) 9 = if p.Kind = 4 then [vF 9 p.Hist.Zero] else [] := by
  rw [with_fields, with_val, with_tail]
  by_cases h : p.Kind = 4 <;> simp [h]
theorem wF10 : withN (fieldsF p) 10 = if p.Kind = 4 then sideF 10 p.Hist.Pos else [] := by
  rw [with_fields, with_val, with_tail]
  by_cases h : p.Kind = 4 <;> simp [h]
theorem wF11 : withN (fieldsF p) 11 = if p.Kind = 4 then sideF 11 p.Hist.Neg else [] := by
  rw [with_fields, with_val, with_tail]
  by_cases h : p.Kind = 4 <;> simp [h]
end
theorem any_with (l : List api_Fld) (ns : List Int) : (l.any fun f => ns.any fun x => decide (x = f.Num)) = ns.any fun n => decide (withN l n ≠ []) := by
  rw [Bool.eq_iff_iff]
  simp only [List.any_eq_true, decide_eq_true_eq]
  constructor
  · rintro ⟨f, hf, x, hx, rfl⟩
    exact ⟨_, hx, fun q => by
      have : f ∈ withN l f.Num := List.mem_filter.2 ⟨hf, by simp⟩
      rw [q] at this; cases this⟩
  · rintro ⟨n, hn, q⟩
    obtain ⟨f, hf⟩ := List.exists_mem_of_ne_nil _ q
    obtain ⟨h1, h2⟩ := List.mem_filter.1 hf
    exact ⟨f, h1, n, hn, (by simpa using h2 : f.Num = n).symm⟩
theorem hasW {l : List api_Fld} (hl : l.length ≤ 100000000) {ns : List Int} (hn : ns.length ≤ 1000) : otlp_has l ns = some (ns.any fun n => decide (withN l n ≠ [])) := by
  rw [has31 hl hn, any_with]
def want10 : List (Int × Int) := [(2, 1), (3, 1), (4, 1), (6, 1), (7, 2), (8, 0), (9, 0), (10, 2), (11, 2), (31, 1)]
theorem fields_want (p : api_Point) : (fieldsF p).any (badW want10) = false := by
  unfold fieldsF
  rw [List.any_append, List.any_append, List.any_append]
  have h1 : ([xF 2 (toU64 p.Start), xF 3 (toU64 p.Time)] : List api_Fld).any (badW want10) = false := rfl
  have h2 : (valF p).any (badW want10) = false := by
    unfold valF
    split
    · rfl
    split <;> rfl
  have h3 : ((srt p.Attrs).map attrF).any (badW want10) = false := by
    rw [List.any_eq_false]
    intro f hf
    obtain ⟨a, _, rfl⟩ := List.mem_map.1 hf
    rw [show badW want10 (attrF a) = false from rfl]; simp
  have h4 : (tailF p).any (badW want10) = false := by
    have s : ∀ n, n = 10 ∨ n = 11 → ∀ s, (sideF n s).any (badW want10) = false := by
      intro n hn s
      unfold sideF
      split
      · rfl
      · rcases hn with rfl | rfl <;> rfl
    unfold tailF
    split
    · rfl
    split
    · rw [List.any_append, List.any_append, s 10 (.inl rfl), s 11 (.inr rfl)]; rfl
    · rfl
  rw [h1, h2, h3, h4]; rfl
def kd (k : Int) : Int := if k = 3 then 3 else if k = 4 then 4 else if k = 5 then 5 else 2
theorem EP.szF {p : api_Point} (e : EP p) : szL (fieldsF p) ≤ 6716 := (fields_ok e).2
theorem form_gen {p : api_Point} (e : EP p) : otlp_form (fieldsF p) (kd p.Kind) = some true := by
  have hs := e.szF
  have hl := (bsz hs).1
  have h8 : ([8, 9, 10, 11] : List Int).any (fun n => decide (withN (fieldsF p) n ≠ [])) = true → p.Kind = 4 := by
    intro h
    apply Decidable.byContradiction
    intro q
    simp [wF8, wF9, wF10, wF11, q] at h
  have h31 : ([31] : List Int).any (fun n => decide (withN (fieldsF p) n ≠ [])) = true → p.Kind = 5 := by
    intro h
    apply Decidable.byContradiction
    intro q
    simp [wF31, q] at h
  unfold otlp_form
  rw [all31 (by omega), bind_some, all31 (by omega), bind_some, wF4, wF6]
  simp only [lett_eq]
  rw [hasW (by omega) (by decide), hasW (by omega) (by decide), bind_some, bind_some]
  generalize ([8, 9, 10, 11] : List Int).any (fun n => decide (withN (fieldsF p) n ≠ [])) = A8 at h8
  generalize ([31] : List Int).any (fun n => decide (withN (fieldsF p) n ≠ [])) = A31 at h31
  have w0 : w64 ((([] : List api_Fld).length : Int) + (([] : List api_Fld).length : Int)) = 0 := by have := w64_id (x := 0) (by omega) (by omega); exact this
  have w1 : w64 ((([xF 4 p.Re] : List api_Fld).length : Int) + (([] : List api_Fld).length : Int)) = 1 := by have := w64_id (x := 1) (by omega) (by omega); exact this
  have w1' : w64 ((([] : List api_Fld).length : Int) + (([xF 6 (toU64 p.Int_)] : List api_Fld).length : Int)) = 1 := by have := w64_id (x := 1) (by omega) (by omega); exact this
  rcases e.kind with h | h | h | h | h
  · have a8 : A8 = false := by cases A8; rfl; have := h8 rfl; omega
    have a31 : A31 = false := by cases A31; rfl; have := h31 rfl; omega
    rw [a8, a31, h, show kd 1 = 2 from rfl]
    rw [if_neg (by omega), if_pos rfl, w1']; rfl
  · have a8 : A8 = false := by cases A8; rfl; have := h8 rfl; omega
    have a31 : A31 = false := by cases A31; rfl; have := h31 rfl; omega
    rw [a8, a31, h, show kd 2 = 2 from rfl]
    rw [if_pos (by omega), if_neg (by omega), w1]; rfl
  · have a8 : A8 = false := by cases A8; rfl; have := h8 rfl; omega
    have a31 : A31 = false := by cases A31; rfl; have := h31 rfl; omega
    rw [a8, a31, h, show kd 3 = 3 from rfl]
    rw [if_pos (by omega), if_neg (by omega), w1]; rfl
  · have a31 : A31 = false := by cases A31; rfl; have := h31 rfl; omega
    rw [a31, h, show kd 4 = 4 from rfl]
    rw [if_neg (by omega), if_neg (by omega), w0]; rfl
  · have a8 : A8 = false := by cases A8; rfl; have := h8 rfl; omega
    rw [a8, h, show kd 5 = 5 from rfl]
    rw [if_pos (by omega), if_neg (by omega), w1]; rfl
end Go.Lg
namespace Go.Lg
attribute [local irreducible] w64 toU64 toU8 shlU shrU shlB shrB
theorem lastW {l : List api_Fld} {f : api_Fld} {n : Int} (h : withN l n = [f]) : lastN l n = f := by unfold lastN; rw [h]; rfl
theorem lastZ {l : List api_Fld} {n : Int} (h : withN l n = []) : lastN l n = F0 := by unfold lastN; rw [h]; rfl
theorem zU_nat {x : Int} (h : I64 x) : (zU x).toNat = zz x := by
  unfold zU
  rw [UInt64.toNat_ofNat']
  have := zz_lt h
  omega
theorem wide31 {x : Int} {out : List api_Point} (h : -1099511627776 ≤ x ∧ x ≤ 1099511627776) : otlp_reader_wide ⟨0, out⟩ (zU x) = some (x, ⟨0, out⟩) := by
  unfold otlp_reader_wide
  rw [zag_eq, zU_nat (by unfold I64; omega), zag_zz, bind_some, decide_eq_false (by omega), decide_eq_false (by omega), show (false || false) = false from rfl, fail_no, bind_some]
theorem wide0 {out : List api_Point} : otlp_reader_wide ⟨0, out⟩ F0.V = some (0, ⟨0, out⟩) := wide31 (x := 0) (by omega)
/-- the bytes of a side -/
def sideB (s : api_Side) : List UInt8 := if s.Counts = [] then [] else encL (sideL s)
theorem side31 {s : api_Side} (r : RightS s) {out : List api_Point} (h : (packL s.Counts).length ≤ 3000) : otlp_reader_side ⟨0, out⟩ (sideB s) = some (s, ⟨0, out⟩) := by
  unfold otlp_reader_side sideB
  by_cases e : s.Counts = []
  · rw [if_pos e]
    have o := open31 (l := []) (want := [(1, 0), (2, 2)]) (out := out) ok_nil (by decide) rfl
    have o' : otlp_reader_open ⟨0, out⟩ [] [(1, 0), (2, 2)] = _ := o
    have u : wire_Unpacked F0.B = some ([], 0) := Unpacked_back (v := []) (by decide) (by decide)
    rw [o', bind_some]
    dsimp only
    rw [last31 (by decide), bind_some, lastZ rfl, wide0, bind_some]
    dsimp only
    rw [last31 (by decide), bind_some, lastZ rfl, u, bind_some]
    dsimp only
    rw [show (!decide ((0 : Int) = 0)) = false from rfl, fail_no, bind_some]
    have z := r.z (by rw [e]; rfl)
    obtain ⟨so, sc⟩ := s
    dsimp only at e z
    rw [e, z]
  · rw [if_neg e]
    have hp := List.length_pos_iff.2 e
    have lo := r.lo hp; have hi := r.hi hp; have hl := r.len
    have hz := side_sz h
    have w1 : lastN (sideL s) 1 = vF 1 (zU s.Offset) := rfl
    have w2 : lastN (sideL s) 2 = bF 2 (packL s.Counts) := rfl
    have u : wire_Unpacked (bF 2 (packL s.Counts)).B = some (s.Counts, 0) := Unpacked_back (by omega) (by omega)
    rw [open31 (side_ok s) (by omega) (by rfl), bind_some]
    dsimp only
    rw [last31 (by omega), bind_some, w1, show (vF 1 (zU s.Offset)).V = zU s.Offset from rfl, wide31 (by omega), bind_some]
    dsimp only
    rw [last31 (by omega), bind_some, w2, u, bind_some]
    dsimp only
    rw [show (!decide ((0 : Int) = 0)) = false from rfl, fail_no, bind_some]
theorem lastS {l : List api_Fld} {n : Int} {s : api_Side} (h : withN l n = sideF n s) : (lastN l n).B = sideB s := by
  unfold lastN sideB
  rw [h]
  unfold sideF
  split <;> rfl
theorem EP.good {p : api_Point} (e : EP p) (h : p.Kind = 4) : Good p.Hist := (good_iff _).1 ((chk0 e.c).2.2.2.2.2.2.1 h)
theorem canon_chk {p : api_Point} (e : EP p) : chkE (canonP p) = 0 := by
  have g := ga_of (chk_label e.c)
  have q := chkE_attrs (p := p) g (srt_perm p.Attrs).symm
  unfold canonP
  rw [← q]
  exact e.c
theorem lt53 {x : UInt64} (h : x.toNat ≤ 9007199254740992) : decide (9007199254740992 < x) = false := by
  rw [decide_eq_false]
  rw [UInt64.lt_iff_toNat_lt, show (9007199254740992 : UInt64).toNat = 9007199254740992 from rfl]
  omega
theorem time31 {x : Int} (h : 0 ≤ x) (h2 : x ≤ 4503599627370496) : w64 ((toU64 x).toNat : Int) = x ∧ decide (9007199254740992 < (toU64 x)) = false := by
  have u : (toU64 x).toNat = x.toNat := toU64_val h (by omega)
  refine ⟨by rw [u, w64_id (by omega) (by omega)]; omega, lt53 ?_⟩
  rw [u]
  omega
set_option maxHeartbeats 100000000 in
theorem lp4_gen {p : api_Point} (e : EP p) (hI : I64 p.Int_) {out : List api_Point} (ho : out.length ≤ 100000000) {f3 : api_Fld} (h3 : decide (f3.V = 1) = p.Mono) :
    loop (otlp_Decode_lp4 [] (kd p.Kind) f3 (bF 1 p.Name) p.Temp [sF 1 (fieldsF p)]) (0, out, 0) = some (.go (0, out ++ [canonP p])) := by
  have hs := e.szF
  have hl := (bsz hs).1
  obtain ⟨f1, _⟩ := fields_ok e
  obtain ⟨kp, _, tp, op, _, _, _, _⟩ := chk0 e.c
  unfold KindP at kp
  unfold TimeP at tp
  have op1 := tp.1.1; have op2 := tp.1.2
  unfold OwnP at op
  obtain ⟨s1, s2⟩ := e.srt
  have ga := ga_of (chk_label e.c)
  obtain ⟨t1, c1⟩ := time31 (x := p.Start) op1 (by omega)
  obtain ⟨t2, c2⟩ := time31 (x := p.Time) (by omega) op2
  have hkd : kd p.Kind = if p.Kind = 1 then 2 else p.Kind := by
    unfold kd
    rcases e.kind with h | h | h | h | h <;> rw [h] <;> rfl
  have hkind : ((otlp_has (fieldsF p) [6]).bind fun r1144 => bif r1144 then (otlp_last (fieldsF p) 6).bind fun r1155 => lett (w64 (r1155.V.toNat : Int)) fun t1173 => some (1, t1173) else some (kd p.Kind, 0) : Option (Int × Int)) = some (p.Kind, p.Int_) := by
    rw [hasW (by omega) (by decide), bind_some]
    by_cases h : p.Kind = 1
    · have w6 : withN (fieldsF p) 6 = [xF 6 (toU64 p.Int_)] := wF6.trans (if_pos h)
      have hi : w64 (((xF 6 (toU64 p.Int_)).V.toNat : Nat) : Int) = p.Int_ := sg_toU64 hI
      rw [show (([6] : List Int).any fun n => decide (withN (fieldsF p) n ≠ [])) = true by simp [w6], bifT rfl, last31 (by omega), bind_some, lastW w6, lett_eq, hi, h]
    · have w6 : withN (fieldsF p) 6 = [] := wF6.trans (if_neg h)
      rw [show (([6] : List Int).any fun n => decide (withN (fieldsF p) n ≠ [])) = false by simp [w6], bifF rfl, hkd, if_neg h, op.1.resolve_left h]
  have hre : (lastN (fieldsF p) 4).V = p.Re := by
    by_cases h : p.Kind = 2 ∨ p.Kind = 3 ∨ p.Kind = 5
    · rw [lastW (wF4.trans (if_pos h))]; rfl
    · rw [lastZ (wF4.trans (if_neg h))]
      rcases op.2.1 with q | q
      · exact absurd q h
      · rw [q]; rfl
  have him : (lastN (fieldsF p) 31).V = p.Im := by
    by_cases h : p.Kind = 5
    · rw [lastW (wF31.trans (if_pos h))]; rfl
    · rw [lastZ (wF31.trans (if_neg h))]
      rcases op.2.2.1 with q | q
      · exact absurd q h
      · rw [q]; rfl
  have hhist : (bif decide (p.Kind = 4) then
     (otlp_last (fieldsF p) 8).bind fun r1242 =>
     (otlp_reader_wide (otlp_reader.mk 0 out) r1242.V).bind fun (r1265, r1266) =>
     (otlp_last (fieldsF p) 9).bind fun r1279 =>
     (otlp_last (fieldsF p) 10).bind fun r1303 =>
     (otlp_reader_side (otlp_reader.mk r1266.e out) r1303.B).bind fun (r1319, r1320) =>
     (otlp_last (fieldsF p) 11).bind fun r1346 =>
     (otlp_reader_side (otlp_reader.mk r1320.e out) r1346.B).bind fun (r1360, r1361) =>
     some (r1361.e, r1265, r1279.V, r1319.Offset, r1319.Counts, r1360.Offset, r1360.Counts)
     else
     some ((0 : Int), 0, 0, 0, [], 0, []) : Option (Int × Int × UInt64 × Int × List UInt64 × Int × List UInt64)) = some (0, p.Hist.Scale, p.Hist.Zero, p.Hist.Pos.Offset, p.Hist.Pos.Counts, p.Hist.Neg.Offset, p.Hist.Neg.Counts) := by
    by_cases h : p.Kind = 4
    · have g := e.good h
      have w8 := wF8.trans (if_pos h)
      have w9 := wF9.trans (if_pos h)
      have w10 := wF10.trans (if_pos h)
      have w11 := wF11.trans (if_pos h)
      have g1 := g.s1; have g2 := g.s2
      rw [bifTd h, last31 (by omega), bind_some, lastW w8, show (vF 8 (zU p.Hist.Scale)).V = zU p.Hist.Scale from rfl, wide31 (by omega), bind_some]
      dsimp only
      rw [last31 (by omega), bind_some, lastW w9, last31 (by omega), bind_some, lastS w10, side31 g.p e.pp, bind_some]
      dsimp only
      rw [last31 (by omega), bind_some, lastS w11, side31 g.n e.pn, bind_some]; rfl
    · rw [bifFd h, op.2.2.2.1.resolve_left h]; rfl
  have hp : api_Point.mk p.Name (srt (srt p.Attrs)) p.Kind p.Temp (decide (f3.V = 1)) (w64 ((toU64 p.Start).toNat : Int)) (w64 ((toU64 p.Time).toNat : Int)) p.Int_ p.Re p.Im (api_Hist.mk p.Hist.Scale p.Hist.Zero (api_Side.mk p.Hist.Pos.Offset p.Hist.Pos.Counts) (api_Side.mk p.Hist.Neg.Offset p.Hist.Neg.Counts)) 0 = canonP p := by
    have hf := e.f
    rw [srt_self ga.u, h3, t1, t2]
    unfold canonP
    obtain ⟨pn, pa, pk, pt, pm, ps, pti, pin, pre, pim, ph, pf⟩ := p
    dsimp only at hf ⊢
    rw [hf]
  refine (loop_next (s' := (0, out ++ [canonP p], 1)) ?_).trans (loop_brk ?_)
  · unfold otlp_Decode_lp4
    dsimp only
    have hB : (sF 1 (fieldsF p)).B = encL (fieldsF p) := rfl
    have hfw := fields_want p
    unfold want10 at hfw
    have hv2 : (xF 2 (toU64 p.Start)).V = toU64 p.Start := rfl
    have hv3 : (xF 3 (toU64 p.Time)).V = toU64 p.Time := rfl
    have hc : ((decide (9007199254740992 < (xF 2 (toU64 p.Start)).V)) || (decide (9007199254740992 < (xF 3 (toU64 p.Time)).V))) = false := by
      rw [hv2, hv3, c1, c2]; rfl
    rw [bifTd (by simp), show idx [sF 1 (fieldsF p)] 0 = some (sF 1 (fieldsF p)) from rfl, bind_some, hB, open31 f1 (by omega) hfw, bind_some]
    dsimp only
    rw [form_gen e, bind_some, show (!true) = false from rfl, fail_no, bind_some, last31 (by omega), bind_some, last31 (by omega), bind_some, lastW wF2, lastW wF3, hc, fail_no, bind_some]
    dsimp only
    rw [bifF (by rfl), lett_eq, lett_eq, all31 (by omega), bind_some, wF7, attrs31 s2 (by omega), bind_some]
    dsimp only
    rw [concat31 (by decide) (by omega), bind_some, List.nil_append, sorted_eq _ (by omega), bind_some, hkind, bind_some]
    dsimp only
    rw [last31 (by omega), bind_some, last31 (by omega), bind_some, hhist, bind_some]
    dsimp only
    have o2 : OkH (canonP p).Hist := e.o
    rw [bifTd rfl, hre, him, hv2, hv3, show (bF 1 p.Name).B = p.Name from rfl, hp, chk_eq o2, canon_chk e, bind_some, show (!decide ((0 : Int) = 0)) = false from rfl, fail_no, bind_some, bind_some, bifTd rfl, app_ok (by simp only [List.length_singleton]; omega), bind_some, bind_some]
    dsimp only
    rw [w64_id (by omega) (by omega)]; rfl
  · unfold otlp_Decode_lp4
    dsimp only
    rw [bifFd (by simp)]
theorem data_with (p : api_Point) (n : Int) : withN (dataF p) n = (if n = 1 then [sF 1 (fieldsF p)] else []) ++ (if p.Temp = 0 then [] else if n = 2 then [vF 2 (toU64 (w64 (3 - p.Temp)))] else []) ++ (if p.Mono = true then (if n = 3 then [vF 3 1] else []) else []) := by
  unfold dataF tempF monoF
  rw [withN_app, withN_app, with_one]
  show (if (1 : Int) = n then _ else _) ++ _ ++ _ = _
  have e1 : (if (1 : Int) = n then [sF 1 (fieldsF p)] else []) = if n = 1 then [sF 1 (fieldsF p)] else [] := by
    by_cases h : n = 1
    · rw [if_pos h.symm, if_pos h]
    · rw [if_neg (fun q => h q.symm), if_neg h]
  have e2 : withN (if p.Temp = 0 then [] else [vF 2 (toU64 (w64 (3 - p.Temp)))]) n = if p.Temp = 0 then [] else if n = 2 then [vF 2 (toU64 (w64 (3 - p.Temp)))] else [] := by
    split
    · rfl
    · rw [with_one]; show (if (2 : Int) = n then _ else _) = _
      by_cases h : n = 2
      · rw [if_pos h.symm, if_pos h]
      · rw [if_neg (fun q => h q.symm), if_neg h]
  have e3 : withN (if p.Mono = true then [vF 3 1] else []) n = if p.Mono = true then (if n = 3 then [vF 3 1] else []) else [] := by
    split
    · rw [with_one]; show (if (3 : Int) = n then _ else _) = _
      by_cases h : n = 3
      · rw [if_pos h.symm, if_pos h]
      · rw [if_neg (fun q => h q.symm), if_neg h]
    · rfl
  rw [e1, e2, e3]
theorem data_want (p : api_Point) : (dataF p).any (badW [(1, 2), (2, 0), (3, 0)]) = false := by
  unfold dataF tempF monoF
  split <;> split <;> rfl
theorem t31a : toU64 (w64 (3 - 1)) = 2 := by
  rw [w64_id (by omega) (by omega), show (3 : Int) - 1 = ((2 : Nat) : Int) from rfl, toU64_n (by omega)]; rfl
theorem t31b : toU64 (w64 (3 - 2)) = 1 := by
  rw [w64_id (by omega) (by omega), show (3 : Int) - 2 = ((1 : Nat) : Int) from rfl, toU64_n (by omega)]; rfl
theorem temp31 {p : api_Point} (e : EP p) : decide (2 < (lastN (dataF p) 2).V) = false ∧ (bif decide (0 < (lastN (dataF p) 2).V) then lett (w64 (((3 : UInt64) - (minU (lastN (dataF p) 2).V (2 : UInt64))).toNat : Int)) fun t664 => some t664 else some 0 : Option Int) = some p.Temp := by
  have w := data_with p 2
  rw [if_neg (by decide), List.nil_append] at w
  have m : (if p.Mono = true then (if (2 : Int) = 3 then [vF 3 1] else []) else []) = ([] : List api_Fld) := by split <;> rfl
  rw [m, List.append_nil] at w
  rcases e.temp with h | h | h
  · rw [if_pos h] at w
    rw [lastZ w, h]; exact ⟨rfl, rfl⟩
  · rw [if_neg (by omega), if_pos rfl, h, t31a] at w
    have hv : (lastN (dataF p) 2).V = 2 := by rw [lastW w]; rfl
    rw [hv, h, bifT (by rfl), lett_eq]
    refine ⟨by rfl, ?_⟩
    rw [show ((3 : UInt64) - (minU (2 : UInt64) (2 : UInt64))).toNat = 1 from rfl, w64_id (by omega) (by omega)]; rfl
  · rw [if_neg (by omega), if_pos rfl, h, t31b] at w
    have hv : (lastN (dataF p) 2).V = 1 := by rw [lastW w]; rfl
    rw [hv, h, bifT (by rfl), lett_eq]
    refine ⟨by rfl, ?_⟩
    rw [show ((3 : UInt64) - (minU (1 : UInt64) (2 : UInt64))).toNat = 2 from rfl, w64_id (by omega) (by omega)]; rfl
theorem mono31 (p : api_Point) : decide (1 < (lastN (dataF p) 3).V) = false ∧ decide ((lastN (dataF p) 3).V = 1) = p.Mono := by
  have w := data_with p 3
  rw [if_neg (by decide), List.nil_append] at w
  have m : (if p.Temp = 0 then [] else if (3 : Int) = 2 then [vF 2 (toU64 (w64 (3 - p.Temp)))] else []) = ([] : List api_Fld) := by split <;> rfl
  rw [m, List.nil_append] at w
  cases h : p.Mono
  · rw [if_neg (by simp [h])] at w
    rw [lastZ w]; exact ⟨rfl, rfl⟩
  · rw [if_pos h, if_pos rfl] at w
    rw [lastW w]; exact ⟨rfl, rfl⟩
set_option maxHeartbeats 100000000 in
theorem lp2_gen {r : List api_Fld} {i : Nat} (hi : i < r.length) (hr : r.length ≤ 100000000) {p : api_Point} (e : EP p) (hI : I64 p.Int_) (he : r[i] = metF p) {out : List api_Point} (ho : out.length ≤ 100000000) :
    otlp_Decode_lp2 r (0, out, [], (i : Int)) = some (.next (0, out ++ [canonP p], [], ((i + 1 : Nat) : Int))) := by
  obtain ⟨m1, m2⟩ := met_ok e
  obtain ⟨d1, d2⟩ := data_ok e
  obtain ⟨T1, T2⟩ := temp31 e
  obtain ⟨M1, M2⟩ := mono31 p
  have L4 := lp4_gen e hI ho M2
  have hw := data_want p
  have wa : withN (dataF p) 1 = [sF 1 (fieldsF p)] := by
    rw [data_with, if_pos rfl]
    have m : (if p.Mono = true then (if (1 : Int) = 3 then [vF 3 1] else []) else []) = ([] : List api_Fld) := by split <;> rfl
    have m2 : (if p.Temp = 0 then [] else if (1 : Int) = 2 then [vF 2 (toU64 (w64 (3 - p.Temp)))] else []) = ([] : List api_Fld) := by split <;> rfl
    rw [m, m2]; rfl
  have hm : metL p = [bF 1 p.Name, sF (kindN p.Kind) (dataF p)] := rfl
  have hB : (metF p).B = encL [bF 1 p.Name, sF (kindN p.Kind) (dataF p)] := rfl
  have hB2 : (sF (kindN p.Kind) (dataF p)).B = encL (dataF p) := rfl
  rw [hm] at m1 m2
  have hbad : ([bF 1 p.Name, sF (kindN p.Kind) (dataF p)] : List api_Fld).any (badW [(1, 2), (5, 2), (7, 2), (10, 2), (30, 2)]) = false := by
    rcases e.kind with h | h | h | h | h <;> rw [h] <;> rfl
  have hfound : withN [bF 1 p.Name, sF (kindN p.Kind) (dataF p)] 5 ++ withN [bF 1 p.Name, sF (kindN p.Kind) (dataF p)] 7 ++ withN [bF 1 p.Name, sF (kindN p.Kind) (dataF p)] 10 ++ withN [bF 1 p.Name, sF (kindN p.Kind) (dataF p)] 30 = [sF (kindN p.Kind) (dataF p)] := by
    rcases e.kind with h | h | h | h | h <;> rw [h] <;> rfl
  have hk : (mget [(5, 3), (7, 2), (10, 4), (30, 5)] (sF (kindN p.Kind) (dataF p)).Num).getD 0 = kd p.Kind := by
    rcases e.kind with h | h | h | h | h <;> rw [h] <;> rfl
  have wn : lastN [bF 1 p.Name, sF (kindN p.Kind) (dataF p)] 1 = bF 1 p.Name := by
    rcases e.kind with h | h | h | h | h <;> rw [h] <;> rfl
  generalize hQ : sF (kindN p.Kind) (dataF p) = Q at *
  generalize hD : dataF p = D at *
  unfold otlp_Decode_lp2
  dsimp only
  rw [bifTd (by omega), idx_nat hi, bind_some, he, hB, open31 m1 (by omega) hbad, bind_some]
  dsimp only
  rw [lp3_31 (by omega), flow_go, bind_some, hfound, show (!decide ((([Q] : List api_Fld).length : Int) = 1)) = false from rfl, fail_no, bind_some]
  dsimp only
  rw [bifF (by rfl), show idx [Q] 0 = some Q from rfl, bind_some, lett_eq, bind_some, hB2, open31 d1 (by omega) hw, bind_some]
  dsimp only
  rw [last31 (by omega), bind_some, last31 (by omega), bind_some, T1, M1, show (false || false) = false from rfl, fail_no, bind_some]
  dsimp only
  rw [last31 (by omega), bind_some, wn, T2, bind_some, all31 (by omega), bind_some, wa, hk, L4, flow_go, bind_some]
  dsimp only
  rw [w64_succ (by omega)]
theorem lp2_all {ps : List api_Point} (he : ∀ p ∈ ps, EP p) (hI : ∀ p ∈ ps, I64 p.Int_) (hn : ps.length ≤ 100000000) : loop (otlp_Decode_lp2 (ps.map metF)) (0, [], [], 0) = some (.go (0, ps.map canonP)) := by
  have L := loop_for (f := otlp_Decode_lp2 (ps.map metF)) (fun i => (0, (ps.take i).map canonP, [], (i : Int))) ps.length (b := (0, ps.map canonP)) (fun i hi => by
    have ht : ps.take (i + 1) = ps.take i ++ [ps[i]] := by rw [List.take_add_one, List.getElem?_eq_getElem hi]; rfl
    have hm := List.getElem_mem hi
    rw [lp2_gen (by rw [List.length_map]; exact hi) (by rw [List.length_map]; exact hn) (he _ hm) (hI _ hm) (List.getElem_map ..) (by rw [List.length_map, List.length_take]; omega), ht, List.map_append]; rfl) (by
    unfold otlp_Decode_lp2
    dsimp only
    rw [bifFd (by rw [List.length_map]; omega), List.take_of_length_le (by omega)])
  exact L
theorem decode_gen {ps : List api_Point} (he : ∀ p ∈ ps, EP p) (hI : ∀ p ∈ ps, I64 p.Int_) (hn : ps.length ≤ 10000) : otlp_Decode (encL [sF 1 (ps.map metF)]) = some (ps.map canonP, 0) := by
  obtain ⟨m1, m2⟩ := mets_ok he
  have hz := sF_sz (n := 1) m1 m2 (by omega)
  have hs : szL [sF 1 (ps.map metF)] ≤ 100000000 := by rw [szL_cons, szL_nil]; omega
  have hB : (sF 1 (ps.map metF)).B = encL (ps.map metF) := rfl
  have hw : (ps.map metF).any (badW [(1, 2), (2, 2)]) = false := by
    rw [List.any_eq_false]
    intro f hf
    obtain ⟨p, _, rfl⟩ := List.mem_map.1 hf
    rw [show badW [(1, 2), (2, 2)] (metF p) = false from rfl]; simp
  have w1 : withN (ps.map metF) 1 = ([] : List api_Pair).map attrF := by
    unfold withN
    rw [List.map_nil, List.filter_eq_nil_iff]
    intro f hf
    obtain ⟨p, _, rfl⟩ := List.mem_map.1 hf
    rw [show (metF p).Num = 2 from rfl]; decide
  have w2 : withN (ps.map metF) 2 = ps.map metF := by
    unfold withN
    rw [List.filter_eq_self]
    intro f hf
    obtain ⟨p, _, rfl⟩ := List.mem_map.1 hf
    rw [show (metF p).Num = 2 from rfl]; rfl
  have L1 : loop (otlp_Decode_lp1 [sF 1 (ps.map metF)]) (0, [], 0) = some (.go (0, ps.map canonP)) := by
    refine (loop_next (s' := (0, ps.map canonP, 1)) ?_).trans (loop_brk ?_)
    · unfold otlp_Decode_lp1
      dsimp only
      rw [bifTd (by simp), show idx [sF 1 (ps.map metF)] 0 = some (sF 1 (ps.map metF)) from rfl, bind_some, hB, open31 m1 (by omega) hw, bind_some]
      dsimp only
      rw [all31 (by omega), bind_some, w1, attrs31 (by simp) (by simp), bind_some]
      dsimp only
      rw [all31 (by omega), bind_some, w2, lp2_all he hI (by omega), flow_go, bind_some]
      dsimp only
      rw [w64_id (by omega) (by omega)]; rfl
    · unfold otlp_Decode_lp1
      dsimp only
      rw [bifFd (by simp)]
  unfold otlp_Decode
  rw [open31 (ok_cons (sF_ok ⟨by decide, by decide⟩ _) ok_nil) (by omega) (by rfl), bind_some]
  dsimp only
  rw [all31 hs, bind_some, show withN [sF 1 (ps.map metF)] 1 = [sF 1 (ps.map metF)] from rfl, L1, flow_go, bind_some]
  dsimp only
  rw [bifF (by rfl)]
end Go.Lg
namespace Go.Lg
attribute [local irreducible] w64 toU64 toU8 shlU shrU shlB shrB
theorem loop_tot {σ β ρ : Type} {f : σ → Option (Rnd σ β ρ)} (μ : σ → Nat) (I : σ → Prop) (B : β → Prop)
    (h : ∀ s, I s → (∃ s', f s = some (.next s') ∧ I s' ∧ μ s' < μ s) ∨ ∃ b, f s = some (.brk b) ∧ B b) :
    ∀ s, I s → ∃ b, loop f s = some (.go b) ∧ B b := by
  have key : ∀ (n : Nat) (s : σ), μ s ≤ n → I s → ∃ b, loop f s = some (.go b) ∧ B b := by
    intro n
    induction n with
    | zero =>
      intro s hm hI
      rcases h s hI with ⟨s', h1, h2, h3⟩ | ⟨b, h1, h2⟩
      · omega
      · exact ⟨b, loop_brk h1, h2⟩
    | succ n ih =>
      intro s hm hI
      rcases h s hI with ⟨s', h1, h2, h3⟩ | ⟨b, h1, h2⟩
      · obtain ⟨b, e1, e2⟩ := ih s' (by omega) h2
        exact ⟨b, (loop_next h1).trans e1, e2⟩
      · exact ⟨b, loop_brk h1, h2⟩
  intro s hI
  exact key (μ s) s (Nat.le_refl _) hI
theorem idx_ex {α : Type} {l : List α} {i : Int} (h : 0 ≤ i) (h2 : i < l.length) : ∃ x, idx l i = some x := by
  have hi : i = (i.toNat : Nat) := by omega
  have hl : i.toNat < l.length := by omega
  exact ⟨l[i.toNat], idx_of hi hl⟩
theorem setI_ex {α : Type} {l : List α} {i : Int} (x : α) (h : 0 ≤ i) (h2 : i < l.length) : ∃ l', setI l i x = some l' ∧ l'.length = l.length := by
  obtain ⟨n, rfl⟩ : ∃ n : Nat, i = n := ⟨i.toNat, by omega⟩
  exact ⟨_, setI_nat (by omega), by rw [List.length_set]⟩
theorem swap_ex {α : Type} {d : List α} {A B : Int} (a1 : 0 ≤ A) (a2 : A < d.length) (b1 : 0 ≤ B) (b2 : B < d.length) : ∃ d', d'.length = d.length ∧ ∀ {β : Type} (K : List α → Option β),
    ((idx d A).bind fun e1 => (idx d B).bind fun e2 => (some ()).bind fun (_ : Unit) => (idx d B).bind fun _e3 => (setI d B e1).bind fun xs => (idx xs A).bind fun _e4 => (setI xs A e2).bind fun xs' => K xs') = K d' := by
  obtain ⟨x, hx⟩ := idx_ex a1 a2
  obtain ⟨y, hy⟩ := idx_ex b1 b2
  obtain ⟨d1, h1, l1⟩ := setI_ex x b1 b2
  obtain ⟨z, hz⟩ := idx_ex (l := d1) a1 (by omega)
  obtain ⟨d2, h2, l2⟩ := setI_ex (l := d1) y a1 (by omega)
  refine ⟨d2, by omega, fun K => ?_⟩
  rw [hx, bind_some, hy, bind_some, bind_some, bind_some, h1, bind_some, hz, bind_some, h2, bind_some]
theorem half31 {x : Int} (h : 0 ≤ x) (h2 : x ≤ 1000000000) : w64 ((shrU (toU64 (w64 x)) ((1 : UInt64).toNat)).toNat : Int) = x / 2 := by
  rw [w64_id (x := x) (by omega) (by omega), shrU_nat _ (n := (1 : UInt64).toNat) (by decide), toU64_val h (by omega), show (2 : Nat) ^ (1 : UInt64).toNat = 2 from rfl, w64_id (by omega) (by omega)]
  omega
theorem cmp_tot (a b : List UInt8) : ∃ c, cmp_Compare_string a b = some c := ⟨_, cmp_eq a b⟩
section
variable {d : List api_Pair} {a m b : Int}
theorem sm1 (h0 : 0 ≤ a) (h1 : a < m) (h2 : m ≤ b) (h3 : b ≤ d.length) (hn : d.length ≤ 100000) : ∃ i, loop (slices_symMergeCmpFunc_api_Pair_lp1 d a) (m, b) = some (.go i) ∧ m ≤ i ∧ i ≤ b := by
  refine loop_tot (fun (s : Int × Int) => (s.2 - s.1).toNat) (fun (s : Int × Int) => m ≤ s.1 ∧ s.1 ≤ s.2 ∧ s.2 ≤ b) (fun i => m ≤ i ∧ i ≤ b) ?_ _ ⟨Int.le_refl _, h2, Int.le_refl _⟩
  rintro ⟨i, j⟩ ⟨k1, k2, k3⟩
  dsimp only at k1 k2 k3
  unfold slices_symMergeCmpFunc_api_Pair_lp1
  dsimp only
  by_cases c : i < j
  · left
    obtain ⟨x, hx⟩ := idx_ex (l := d) (i := (i + j) / 2) (by omega) (by omega)
    obtain ⟨y, hy⟩ := idx_ex (l := d) (i := a) h0 (by omega)
    obtain ⟨q, hq⟩ := cmp_tot x.Key y.Key
    rw [bifTd c, half31 (by omega) (by omega), lett_eq, hx, bind_some, hy, bind_some, hq, bind_some, bind_some]
    by_cases cq : q < 0
    · rw [bifTd cq, lett_eq, bind_some, w64_id (by omega) (by omega)]
      exact ⟨_, rfl, ⟨by dsimp only; omega, by dsimp only; omega, by dsimp only; omega⟩, by dsimp only; omega⟩
    · rw [bifFd cq, bind_some]
      exact ⟨_, rfl, ⟨by dsimp only; omega, by dsimp only; omega, by dsimp only; omega⟩, by dsimp only; omega⟩
  · right
    rw [bifFd c]
    exact ⟨_, rfl, by omega, by omega⟩
theorem sm3 (h0 : 0 ≤ a) (h1 : a ≤ m) (h2 : m < d.length) (hn : d.length ≤ 100000) : ∃ i, loop (slices_symMergeCmpFunc_api_Pair_lp3 d m) (a, m) = some (.go i) ∧ a ≤ i ∧ i ≤ m := by
  refine loop_tot (fun (s : Int × Int) => (s.2 - s.1).toNat) (fun (s : Int × Int) => a ≤ s.1 ∧ s.1 ≤ s.2 ∧ s.2 ≤ m) (fun i => a ≤ i ∧ i ≤ m) ?_ _ ⟨Int.le_refl _, h1, Int.le_refl _⟩
  rintro ⟨i, j⟩ ⟨k1, k2, k3⟩
  dsimp only at k1 k2 k3
  unfold slices_symMergeCmpFunc_api_Pair_lp3
  dsimp only
  by_cases c : i < j
  · left
    obtain ⟨x, hx⟩ := idx_ex (l := d) (i := (i + j) / 2) (by omega) (by omega)
    obtain ⟨y, hy⟩ := idx_ex (l := d) (i := m) (by omega) (by omega)
    obtain ⟨q, hq⟩ := cmp_tot y.Key x.Key
    rw [bifTd c, half31 (by omega) (by omega), lett_eq, hy, bind_some, hx, bind_some, hq, bind_some, bind_some]
    by_cases cq : q < 0
    · rw [bifF (by simp [cq]), bind_some]
      exact ⟨_, rfl, ⟨by dsimp only; omega, by dsimp only; omega, by dsimp only; omega⟩, by dsimp only; omega⟩
    · rw [bifT (by simp [cq]), lett_eq, bind_some, w64_id (by omega) (by omega)]
      exact ⟨_, rfl, ⟨by dsimp only; omega, by dsimp only; omega, by dsimp only; omega⟩, by dsimp only; omega⟩
  · right
    rw [bifFd c]
    exact ⟨_, rfl, by omega, by omega⟩
theorem sm5 {p lo hi s0 r0 : Int} (h0 : 0 ≤ lo) (h1 : lo ≤ s0) (h2 : s0 ≤ r0) (h3 : r0 ≤ hi) (hh : hi ≤ d.length) (q1 : ∀ c, s0 ≤ c → c < r0 → 0 ≤ p - c ∧ p - c < d.length) (hn : d.length ≤ 100000) (hp : -1000000 ≤ p ∧ p ≤ 1000000) :
    ∃ i, loop (slices_symMergeCmpFunc_api_Pair_lp5 d p) (s0, r0) = some (.go i) ∧ s0 ≤ i ∧ i ≤ r0 := by
  refine loop_tot (fun (s : Int × Int) => (s.2 - s.1).toNat) (fun (s : Int × Int) => s0 ≤ s.1 ∧ s.1 ≤ s.2 ∧ s.2 ≤ r0) (fun i => s0 ≤ i ∧ i ≤ r0) ?_ _ ⟨Int.le_refl _, h2, Int.le_refl _⟩
  rintro ⟨i, j⟩ ⟨k1, k2, k3⟩
  dsimp only at k1 k2 k3
  unfold slices_symMergeCmpFunc_api_Pair_lp5
  dsimp only
  by_cases c : i < j
  · left
    obtain ⟨g1, g2⟩ := q1 ((i + j) / 2) (by omega) (by omega)
    obtain ⟨x, hx⟩ := idx_ex (l := d) (i := (i + j) / 2) (by omega) (by omega)
    obtain ⟨y, hy⟩ := idx_ex (l := d) (i := p - (i + j) / 2) g1 g2
    obtain ⟨q, hq⟩ := cmp_tot y.Key x.Key
    rw [bifTd c, half31 (by omega) (by omega), lett_eq, w64_id (x := p - (i + j) / 2) (by omega) (by omega), hy, bind_some, hx, bind_some, hq, bind_some, bind_some]
    by_cases cq : q < 0
    · rw [bifF (by simp [cq]), bind_some]
      exact ⟨_, rfl, ⟨by dsimp only; omega, by dsimp only; omega, by dsimp only; omega⟩, by dsimp only; omega⟩
    · rw [bifT (by simp [cq]), lett_eq, bind_some, w64_id (by omega) (by omega)]
      exact ⟨_, rfl, ⟨by dsimp only; omega, by dsimp only; omega, by dsimp only; omega⟩, by dsimp only; omega⟩
  · right
    rw [bifFd c]
    exact ⟨_, rfl, by omega, by omega⟩
theorem sm2 {i : Int} (h0 : 0 ≤ a) (h1 : i ≤ d.length) (hn : d.length ≤ 100000) (hi : 0 ≤ i) : ∃ d', loop (slices_symMergeCmpFunc_api_Pair_lp2 i) (d, a) = some (.go d') ∧ d'.length = d.length := by
  refine loop_tot (fun (s : List api_Pair × Int) => (i - s.2).toNat) (fun (s : List api_Pair × Int) => s.1.length = d.length ∧ 0 ≤ s.2) (fun (x : List api_Pair) => x.length = d.length) ?_ _ ⟨rfl, h0⟩
  rintro ⟨e, k⟩ ⟨k1, k2⟩
  dsimp only at k1 k2
  unfold slices_symMergeCmpFunc_api_Pair_lp2
  dsimp only
  rw [w64_id (x := i - 1) (by omega) (by omega)]
  by_cases c : k < i - 1
  · left
    rw [bifTd c, w64_id (x := k + 1) (by omega) (by omega)]
    obtain ⟨d', hl, hs⟩ := swap_ex (d := e) (A := k + 1) (B := k) (by omega) (by omega) (by omega) (by omega)
    rw [hs, lett_eq]
    exact ⟨_, rfl, ⟨by dsimp only; omega, by dsimp only; omega⟩, by dsimp only; omega⟩
  · right
    rw [bifFd c]
    exact ⟨_, rfl, k1⟩
theorem sm4 {i : Int} (h0 : 0 ≤ i) (h1 : m < d.length) (hn : d.length ≤ 100000) (hm : 0 ≤ m) : ∃ d', loop (slices_symMergeCmpFunc_api_Pair_lp4 i) (d, m) = some (.go d') ∧ d'.length = d.length := by
  refine loop_tot (fun (s : List api_Pair × Int) => s.2.toNat) (fun (s : List api_Pair × Int) => s.1.length = d.length ∧ 0 ≤ s.2 ∧ s.2 < d.length) (fun (x : List api_Pair) => x.length = d.length) ?_ _ ⟨rfl, hm, h1⟩
  rintro ⟨e, k⟩ ⟨k1, k2, k3⟩
  dsimp only at k1 k2 k3
  unfold slices_symMergeCmpFunc_api_Pair_lp4
  dsimp only
  by_cases c : i < k
  · left
    rw [bifTd c, w64_id (x := k - 1) (by omega) (by omega)]
    obtain ⟨d', hl, hs⟩ := swap_ex (d := e) (A := k - 1) (B := k) (by omega) (by omega) (by omega) (by omega)
    rw [hs, lett_eq]
    exact ⟨_, rfl, ⟨by dsimp only; omega, by dsimp only; omega, by dsimp only; omega⟩, by dsimp only; omega⟩
  · right
    rw [bifFd c]
    exact ⟨_, rfl, k1⟩
theorem sm7 {i j : Int} (hi : 0 ≤ m - i) (h2 : m + j ≤ d.length) (hj : j < i) (hj0 : 0 ≤ j) (hn : d.length ≤ 100000) : ∃ d', loop (slices_symMergeCmpFunc_api_Pair_lp7 m i j) (d, 0) = some (.go d') ∧ d'.length = d.length := by
  refine loop_tot (fun (s : List api_Pair × Int) => (j - s.2).toNat) (fun (s : List api_Pair × Int) => s.1.length = d.length ∧ 0 ≤ s.2) (fun (x : List api_Pair) => x.length = d.length) ?_ _ ⟨rfl, Int.le_refl _⟩
  rintro ⟨e, k⟩ ⟨k1, k2⟩
  dsimp only at k1 k2
  unfold slices_symMergeCmpFunc_api_Pair_lp7
  dsimp only
  by_cases c : k < j
  · left
    rw [bifTd c, w64_id (x := m + k) (by omega) (by omega), w64_id (x := m - i) (by omega) (by omega), w64_id (x := m - i + k) (by omega) (by omega)]
    obtain ⟨d', hl, hs⟩ := swap_ex (d := e) (A := m + k) (B := m - i + k) (by omega) (by omega) (by omega) (by omega)
    rw [hs, lett_eq, w64_id (by omega) (by omega)]
    exact ⟨_, rfl, ⟨by dsimp only; omega, by dsimp only; omega⟩, by dsimp only; omega⟩
  · right
    rw [bifFd c]
    exact ⟨_, rfl, k1⟩
theorem sm8 {i j : Int} (hi : 0 ≤ m - i) (h2 : m + j ≤ d.length) (hj : i < j) (hi0 : 0 ≤ i) (hn : d.length ≤ 100000) : ∃ d', loop (slices_symMergeCmpFunc_api_Pair_lp8 m i j) (d, 0) = some (.go d') ∧ d'.length = d.length := by
  refine loop_tot (fun (s : List api_Pair × Int) => (i - s.2).toNat) (fun (s : List api_Pair × Int) => s.1.length = d.length ∧ 0 ≤ s.2) (fun (x : List api_Pair) => x.length = d.length) ?_ _ ⟨rfl, Int.le_refl _⟩
  rintro ⟨e, k⟩ ⟨k1, k2⟩
  dsimp only at k1 k2
  unfold slices_symMergeCmpFunc_api_Pair_lp8
  dsimp only
  by_cases c : k < i
  · left
    rw [bifTd c, w64_id (x := m + j) (by omega) (by omega), w64_id (x := m + j - i) (by omega) (by omega), w64_id (x := m + j - i + k) (by omega) (by omega), w64_id (x := m - i) (by omega) (by omega), w64_id (x := m - i + k) (by omega) (by omega)]
    obtain ⟨d', hl, hs⟩ := swap_ex (d := e) (A := m + j - i + k) (B := m - i + k) (by omega) (by omega) (by omega) (by omega)
    rw [hs, lett_eq, w64_id (by omega) (by omega)]
    exact ⟨_, rfl, ⟨by dsimp only; omega, by dsimp only; omega⟩, by dsimp only; omega⟩
  · right
    rw [bifFd c]
    exact ⟨_, rfl, k1⟩
theorem sm9 {i : Int} (hi : 0 ≤ m - i) (h2 : m + i ≤ d.length) (hi0 : 0 ≤ i) (hn : d.length ≤ 100000) : ∃ d', loop (slices_symMergeCmpFunc_api_Pair_lp9 m i) (d, 0) = some (.go d') ∧ d'.length = d.length := by
  refine loop_tot (fun (s : List api_Pair × Int) => (i - s.2).toNat) (fun (s : List api_Pair × Int) => s.1.length = d.length ∧ 0 ≤ s.2) (fun (x : List api_Pair) => x.length = d.length) ?_ _ ⟨rfl, Int.le_refl _⟩
  rintro ⟨e, k⟩ ⟨k1, k2⟩
  dsimp only at k1 k2
  unfold slices_symMergeCmpFunc_api_Pair_lp9
  dsimp only
  by_cases c : k < i
  · left
    rw [bifTd c, w64_id (x := m + k) (by omega) (by omega), w64_id (x := m - i) (by omega) (by omega), w64_id (x := m - i + k) (by omega) (by omega)]
    obtain ⟨d', hl, hs⟩ := swap_ex (d := e) (A := m + k) (B := m - i + k) (by omega) (by omega) (by omega) (by omega)
    rw [hs, lett_eq, w64_id (by omega) (by omega)]
    exact ⟨_, rfl, ⟨by dsimp only; omega, by dsimp only; omega⟩, by dsimp only; omega⟩
  · right
    rw [bifFd c]
    exact ⟨_, rfl, k1⟩
theorem sm6 {i j : Int} (hi : 0 ≤ m - i) (h2 : m + j ≤ d.length) (hi0 : 0 < i) (hj0 : 0 < j) (hm : 0 ≤ m) (hn : d.length ≤ 100000) : ∃ x : List api_Pair × Int, loop (slices_symMergeCmpFunc_api_Pair_lp6 m) (d, i, j) = some (.go x) ∧ x.1.length = d.length ∧ 0 < x.2 ∧ 0 ≤ m - x.2 ∧ m + x.2 ≤ d.length := by
  refine loop_tot (fun (s : List api_Pair × Int × Int) => (s.2.1 + s.2.2).toNat) (fun (s : List api_Pair × Int × Int) => s.1.length = d.length ∧ 0 < s.2.1 ∧ 0 < s.2.2 ∧ 0 ≤ m - s.2.1 ∧ m + s.2.2 ≤ d.length) (fun (x : List api_Pair × Int) => x.1.length = d.length ∧ 0 < x.2 ∧ 0 ≤ m - x.2 ∧ m + x.2 ≤ d.length) ?_ _ ⟨rfl, hi0, hj0, hi, h2⟩
  rintro ⟨e, i, j⟩ ⟨k1, k2, k3, k4, k5⟩
  dsimp only at k1 k2 k3 k4 k5
  unfold slices_symMergeCmpFunc_api_Pair_lp6
  dsimp only
  by_cases c : i = j
  · right
    rw [bifF (by simp [c])]
    exact ⟨_, rfl, k1, k2, k4, by dsimp only; omega⟩
  · left
    rw [bifT (by simp [c])]
    by_cases c2 : j < i
    · obtain ⟨d', hs, hl⟩ := sm7 (d := e) (m := m) (i := i) (j := j) k4 (by omega) c2 (by omega) (by omega)
      rw [bifTd c2, hs, flow_go, bind_some, lett_eq, bind_some, w64_id (by omega) (by omega)]
      exact ⟨_, rfl, ⟨by dsimp only; omega, by dsimp only; omega, by dsimp only; omega, by dsimp only; omega, by dsimp only; omega⟩, by dsimp only; omega⟩
    · obtain ⟨d', hs, hl⟩ := sm8 (d := e) (m := m) (i := i) (j := j) k4 (by omega) (by omega) (by omega) (by omega)
      rw [bifFd c2, hs, flow_go, bind_some, lett_eq, bind_some, w64_id (by omega) (by omega)]
      exact ⟨_, rfl, ⟨by dsimp only; omega, by dsimp only; omega, by dsimp only; omega, by dsimp only; omega, by dsimp only; omega⟩, by dsimp only; omega⟩
end
structure SmP (d : List api_Pair) (a m b : Int) : Prop where
  p0 : 0 ≤ a
  am : a < m
  mb : m < b
  pb : b ≤ d.length
  n : d.length ≤ 100000
set_option maxHeartbeats 1000000 in
theorem smB {d : List api_Pair} {a m b : Int} (p : SmP d a m b) : (∃ d', d'.length = d.length ∧ ∀ rec_, slices_symMergeCmpFunc_api_PairB rec_ d a m b = some d') ∨
    ∃ (d1 : List api_Pair) (s e mid : Int), d1.length = d.length ∧ a < mid ∧ mid < b ∧ ∀ rec_, slices_symMergeCmpFunc_api_PairB rec_ d a m b =
      (bif ((decide (a < s)) && (decide (s < mid))) then (rec_ d1 a s mid).bind fun r => some r else some d1 : Option (List api_Pair)).bind fun d2 => bif ((decide (mid < e)) && (decide (e < b))) then (rec_ d2 mid e b).bind fun r => some r else some d2 := by
  obtain ⟨p1, p2, p3, p4, p5⟩ := p
  unfold slices_symMergeCmpFunc_api_PairB
  by_cases c1 : m - a = 1
  · left
    obtain ⟨i, e1, i1, i2⟩ := sm1 (d := d) (a := a) (m := m) (b := b) p1 p2 (by omega) p4 p5
    obtain ⟨d', e2, l2⟩ := sm2 (d := d) (a := a) (i := i) p1 (by omega) p5 (by omega)
    refine ⟨d', l2, fun rec_ => ?_⟩
    rw [w64_id (x := m - a) (by omega) (by omega), bifTd c1, e1, flow_go, bind_some, e2, flow_go]
  by_cases c2 : b - m = 1
  · left
    obtain ⟨i, e1, i1, i2⟩ := sm3 (d := d) (a := a) (m := m) p1 (by omega) (by omega) p5
    obtain ⟨d', e2, l2⟩ := sm4 (d := d) (m := m) (i := i) (by omega) (by omega) p5 (by omega)
    refine ⟨d', l2, fun rec_ => ?_⟩
    rw [w64_id (x := m - a) (by omega) (by omega), bifFd c1, w64_id (x := b - m) (by omega) (by omega), bifTd c2, e1, flow_go, bind_some, e2, flow_go]
  right
  obtain ⟨mid, hmid⟩ : ∃ mid, mid = (a + b) / 2 := ⟨_, rfl⟩
  obtain ⟨s0, r0, hsr, g1, g2, g3, g4⟩ : ∃ s0 r0 : Int, (bif decide (mid < m) then lett (w64 (w64 (mid + m) - b)) fun start423 => some (start423, mid) else some (a, m) : Option (Int × Int)) = some (s0, r0) ∧ a ≤ s0 ∧ s0 ≤ r0 ∧ r0 ≤ m ∧ (∀ c, s0 ≤ c → c < r0 → 0 ≤ mid + m - 1 - c ∧ mid + m - 1 - c < d.length) ∧ (mid + m - s0 ≤ b) := by
    by_cases c : mid < m
    · refine ⟨mid + m - b, mid, ?_, by omega, by omega, by omega, fun c h1 h2 => by omega, by omega⟩
      rw [bifTd c, lett_eq, w64_id (x := mid + m) (by omega) (by omega), w64_id (by omega) (by omega)]
    · exact ⟨a, m, by rw [bifFd c], by omega, by omega, by omega, fun c h1 h2 => by omega, by omega⟩
  obtain ⟨g4, g5⟩ := g4
  obtain ⟨s, e1, s1, s2⟩ := sm5 (d := d) (p := mid + m - 1) (lo := a) (hi := m) (s0 := s0) (r0 := r0) p1 g1 g2 g3 (by omega) g4 p5 (by omega)
  obtain ⟨e, he⟩ : ∃ e, e = mid + m - s := ⟨_, rfl⟩
  obtain ⟨d1, hd1, l1⟩ : ∃ d1 : List api_Pair, (bif ((decide (s < m)) && (decide (m < e))) then
       (lett (w64 (m - s)) fun i526 =>
       lett (w64 (e - m)) fun j527 =>
       (flow (loop (slices_symMergeCmpFunc_api_Pair_lp6 m) (d, i526, j527)) fun (data545, i548) =>
       some (data545, i548) : Option (List api_Pair × Int)).bind fun (data528, i531) =>
       (flow (loop (slices_symMergeCmpFunc_api_Pair_lp9 m i531) (data528, 0)) fun x874 =>
       some x874 : Option (List api_Pair)).bind fun x859 =>
       some x859 : Option (List api_Pair)).bind fun data518 =>
       some data518
       else
       some d : Option (List api_Pair)) = some d1 ∧ d1.length = d.length := by
    by_cases c : s < m ∧ m < e
    · obtain ⟨⟨x1, x2⟩, f1, f2, f3, f4, f5⟩ := sm6 (d := d) (m := m) (i := m - s) (j := e - m) (by omega) (by omega) (by omega) (by omega) (by omega) p5
      dsimp only at f2 f3 f4 f5
      obtain ⟨d', f6, f7⟩ := sm9 (d := x1) (m := m) (i := x2) f4 (by omega) (by omega) (by omega)
      refine ⟨d', ?_, by omega⟩
      rw [bifT (by simp [c.1, c.2]), lett_eq, lett_eq, w64_id (by omega) (by omega), w64_id (by omega) (by omega), f1, flow_go]
      dsimp only
      rw [bind_some]
      dsimp only
      rw [f6, flow_go, bind_some, bind_some]
    · exact ⟨d, by rw [bifF (by rw [Bool.and_eq_false_iff]; by_cases q : s < m; exact .inr (decide_eq_false fun z => c ⟨q, z⟩); exact .inl (decide_eq_false q))], rfl⟩
  refine ⟨d1, s, e, mid, l1, by omega, by omega, fun rec_ => ?_⟩
  rw [w64_id (x := m - a) (by omega) (by omega), bifFd c1, w64_id (x := b - m) (by omega) (by omega), bifFd c2, half31 (by omega) (by omega), ← hmid, lett_eq, lett_eq, hsr, bind_some]
  dsimp only
  rw [w64_id (x := mid + m) (by omega) (by omega), w64_id (x := mid + m - 1) (by omega) (by omega), lett_eq, e1, flow_go, bind_some, w64_id (x := mid + m - s) (by omega) (by omega), lett_eq, ← he, hd1, bind_some]
theorem smN : ∀ (k : Nat) {d : List api_Pair} {a m b : Int}, SmP d a m b → (∀ x, slices_symMergeCmpFunc_api_PairN k d a m b = some x → x.length = d.length) ∧ ((b - a).toNat < k → ∃ x, slices_symMergeCmpFunc_api_PairN k d a m b = some x) := by
  intro k
  induction k with
  | zero => exact fun p => ⟨fun x h => (by cases h), fun h => (by omega)⟩
  | succ k ih =>
    intro d a m b p
    have e : slices_symMergeCmpFunc_api_PairN (k + 1) = slices_symMergeCmpFunc_api_PairB (slices_symMergeCmpFunc_api_PairN k) := rfl
    rw [e]
    rcases smB p with ⟨d', l, h⟩ | ⟨d1, s, e, mid, l1, q1, q2, h⟩
    · rw [h]
      exact ⟨fun x hx => by rw [← Option.some.inj hx]; exact l, fun _ => ⟨d', rfl⟩⟩
    rw [h]
    have f1 : (∀ x, (bif ((decide (a < s)) && (decide (s < mid))) then (slices_symMergeCmpFunc_api_PairN k d1 a s mid).bind fun r => some r else some d1 : Option (List api_Pair)) = some x → x.length = d.length) ∧
        ((b - a).toNat < k + 1 → ∃ x, (bif ((decide (a < s)) && (decide (s < mid))) then (slices_symMergeCmpFunc_api_PairN k d1 a s mid).bind fun r => some r else some d1 : Option (List api_Pair)) = some x) := by
      by_cases c : a < s ∧ s < mid
      · obtain ⟨i1, i2⟩ := ih (d := d1) (a := a) (m := s) (b := mid) ⟨p.p0, c.1, c.2, by have := p.pb; omega, by have := p.n; omega⟩
        rw [bifT (by simp [c.1, c.2])]
        refine ⟨fun x hx => ?_, fun hk => ?_⟩
        · obtain ⟨y, h1, h2⟩ := bnd hx
          have := i1 y h1
          rw [← Option.some.inj h2]; omega
        · obtain ⟨x, hx⟩ := i2 (by omega)
          exact ⟨x, by rw [hx, bind_some]⟩
      · rw [bifF (by rw [Bool.and_eq_false_iff]; by_cases q : a < s; exact .inr (decide_eq_false fun z => c ⟨q, z⟩); exact .inl (decide_eq_false q))]
        exact ⟨fun x hx => by rw [← Option.some.inj hx]; exact l1, fun _ => ⟨d1, rfl⟩⟩
    have f2 : ∀ d2 : List api_Pair, d2.length = d.length → (∀ x, (bif ((decide (mid < e)) && (decide (e < b))) then (slices_symMergeCmpFunc_api_PairN k d2 mid e b).bind fun r => some r else some d2 : Option (List api_Pair)) = some x → x.length = d.length) ∧
        ((b - a).toNat < k + 1 → ∃ x, (bif ((decide (mid < e)) && (decide (e < b))) then (slices_symMergeCmpFunc_api_PairN k d2 mid e b).bind fun r => some r else some d2 : Option (List api_Pair)) = some x) := by
      intro d2 l2
      by_cases c : mid < e ∧ e < b
      · obtain ⟨i1, i2⟩ := ih (d := d2) (a := mid) (m := e) (b := b) ⟨by have := p.p0; omega, c.1, c.2, by have := p.pb; omega, by have := p.n; omega⟩
        rw [bifT (by simp [c.1, c.2])]
        refine ⟨fun x hx => ?_, fun hk => ?_⟩
        · obtain ⟨y, h1, h2⟩ := bnd hx
          have := i1 y h1
          rw [← Option.some.inj h2]; omega
        · obtain ⟨x, hx⟩ := i2 (by omega)
          exact ⟨x, by rw [hx, bind_some]⟩
      · rw [bifF (by rw [Bool.and_eq_false_iff]; by_cases q : mid < e; exact .inr (decide_eq_false fun z => c ⟨q, z⟩); exact .inl (decide_eq_false q))]
        exact ⟨fun x hx => by rw [← Option.some.inj hx]; exact l2, fun _ => ⟨d2, rfl⟩⟩
    refine ⟨fun x hx => ?_, fun hk => ?_⟩
    · obtain ⟨y, h1, h2⟩ := bnd hx
      exact (f2 y (f1.1 y h1)).1 x h2
    · obtain ⟨y, hy⟩ := f1.2 hk
      obtain ⟨x, hx⟩ := (f2 y (f1.1 y hy)).2 hk
      exact ⟨x, by rw [hy, bind_some]; exact hx⟩
theorem fuel_ex {α : Type} {f : Nat → Option α} {P : α → Prop} (hp : ∀ k x, f k = some x → P x) {k : Nat} {x : α} (h : f k = some x) : ∃ y, fuel f = some y ∧ P y := by
  have hx : ∃ k, (f k).isSome := ⟨k, by rw [h]; rfl⟩
  unfold fuel
  rw [dif_pos hx]
  obtain ⟨y, hq⟩ := Option.isSome_iff_exists.1 (Classical.choose_spec hx)
  exact ⟨y, hq, hp _ _ hq⟩
theorem sm_tot {d : List api_Pair} {a m b : Int} (p : SmP d a m b) : ∃ x, slices_symMergeCmpFunc_api_Pair d a m b = some x ∧ x.length = d.length := by
  obtain ⟨x, hx⟩ := (smN ((b - a).toNat + 1) p).2 (by omega)
  exact fuel_ex (fun k x h => (smN k p).1 x h) hx
/-! ### a block is sorted by insertion -/
theorem cond_tot {e : List api_Pair} {a k : Int} (h0 : 0 ≤ a) (h : k < e.length) : ∃ t : Bool, ((bif decide (a < k) then
     (idx e k).bind fun e167 =>
     (idx e (k - 1)).bind fun e194 =>
     ((cmp_Compare_string e167.Key e194.Key).bind fun r228 =>
     some r228 : Option Int).bind fun x211 =>
     some (decide (x211 < 0))
     else
     some false) : Option Bool) = some t ∧ (t = true → a < k) := by
  by_cases c : a < k
  · obtain ⟨x, hx⟩ := idx_ex (l := e) (i := k) (by omega) (by omega)
    obtain ⟨y, hy⟩ := idx_ex (l := e) (i := k - 1) (by omega) (by omega)
    obtain ⟨q, hq⟩ := cmp_tot x.Key y.Key
    exact ⟨_, by rw [bifTd c, hx, bind_some, hy, bind_some, hq, bind_some, bind_some], fun _ => c⟩
  · exact ⟨false, by rw [bifFd c], fun h => by cases h⟩
theorem ins3 {d : List api_Pair} {a j : Int} (h0 : 0 ≤ a) (h1 : a ≤ j) (h2 : j < d.length) (hn : d.length ≤ 100000) : ∃ d', loop (label_Sorted_lp3 a) (d, j) = some (.go d') ∧ d'.length = d.length := by
  refine loop_tot (fun (s : List api_Pair × Int) => s.2.toNat) (fun (s : List api_Pair × Int) => s.1.length = d.length ∧ a ≤ s.2 ∧ s.2 < d.length) (fun (x : List api_Pair) => x.length = d.length) ?_ _ ⟨rfl, h1, h2⟩
  rintro ⟨e, k⟩ ⟨k1, k2, k3⟩
  dsimp only at k1 k2 k3
  obtain ⟨t, ht, hk⟩ := cond_tot (e := e) (a := a) (k := k) h0 (by omega)
  unfold label_Sorted_lp3
  dsimp only
  rw [w64_id (x := k - 1) (by omega) (by omega), ht, bind_some]
  cases t
  · right
    rw [cond_false]
    exact ⟨_, rfl, k1⟩
  · left
    have c := hk rfl
    obtain ⟨d', hl, hs⟩ := swap_ex (d := e) (A := k - 1) (B := k) (by omega) (by omega) (by omega) (by omega)
    rw [cond_true, hs, lett_eq]
    exact ⟨_, rfl, ⟨by dsimp only; omega, by dsimp only; omega, by dsimp only; omega⟩, by dsimp only; omega⟩
theorem ins5 {d : List api_Pair} {a j : Int} (h0 : 0 ≤ a) (h1 : a ≤ j) (h2 : j < d.length) (hn : d.length ≤ 100000) : ∃ d', loop (label_Sorted_lp5 a) (d, j) = some (.go d') ∧ d'.length = d.length := by
  refine loop_tot (fun (s : List api_Pair × Int) => s.2.toNat) (fun (s : List api_Pair × Int) => s.1.length = d.length ∧ a ≤ s.2 ∧ s.2 < d.length) (fun (x : List api_Pair) => x.length = d.length) ?_ _ ⟨rfl, h1, h2⟩
  rintro ⟨e, k⟩ ⟨k1, k2, k3⟩
  dsimp only at k1 k2 k3
  obtain ⟨t, ht, hk⟩ := cond_tot (e := e) (a := a) (k := k) h0 (by omega)
  unfold label_Sorted_lp5
  dsimp only
  rw [w64_id (x := k - 1) (by omega) (by omega), ht, bind_some]
  cases t
  · right
    rw [cond_false]
    exact ⟨_, rfl, k1⟩
  · left
    have c := hk rfl
    obtain ⟨d', hl, hs⟩ := swap_ex (d := e) (A := k - 1) (B := k) (by omega) (by omega) (by omega) (by omega)
    rw [cond_true, hs, lett_eq]
    exact ⟨_, rfl, ⟨by dsimp only; omega, by dsimp only; omega, by dsimp only; omega⟩, by dsimp only; omega⟩
theorem ins2 {d : List api_Pair} {a b : Int} (h0 : 0 ≤ a) (h2 : b ≤ d.length) (hn : d.length ≤ 100000) : ∃ d', loop (label_Sorted_lp2 a b) (d, a + 1) = some (.go d') ∧ d'.length = d.length := by
  refine loop_tot (fun (s : List api_Pair × Int) => (b - s.2).toNat) (fun (s : List api_Pair × Int) => s.1.length = d.length ∧ a < s.2) (fun (x : List api_Pair) => x.length = d.length) ?_ _ ⟨rfl, by dsimp only; omega⟩
  rintro ⟨e, k⟩ ⟨k1, k2⟩
  dsimp only at k1 k2
  unfold label_Sorted_lp2
  dsimp only
  by_cases c : k < b
  · left
    obtain ⟨d', hs, hl⟩ := ins3 (d := e) (a := a) (j := k) h0 (by omega) (by omega) (by omega)
    rw [bifTd c, hs, flow_go, bind_some, lett_eq, w64_id (by omega) (by omega)]
    exact ⟨_, rfl, ⟨by dsimp only; omega, by dsimp only; omega⟩, by dsimp only; omega⟩
  · right
    rw [bifFd c]
    exact ⟨_, rfl, k1⟩
theorem ins1 {r d : List api_Pair} (hr : r.length = d.length) (hn : d.length ≤ 100000) : ∃ x : List api_Pair × Int, loop (label_Sorted_lp1 r) (d, 0, 20) = some (.go x) ∧ x.1.length = d.length ∧ 0 ≤ x.2 ∧ x.2 ≤ d.length := by
  refine loop_tot (fun (s : List api_Pair × Int × Int) => (d.length + 20 - s.2.2).toNat) (fun (s : List api_Pair × Int × Int) => s.1.length = d.length ∧ 0 ≤ s.2.1 ∧ s.2.1 ≤ d.length ∧ s.2.2 = s.2.1 + 20) (fun (x : List api_Pair × Int) => x.1.length = d.length ∧ 0 ≤ x.2 ∧ x.2 ≤ d.length) ?_ _ ⟨rfl, by dsimp only; omega, by dsimp only; omega, rfl⟩
  rintro ⟨e, a, b⟩ ⟨k1, k2, k3, k4⟩
  dsimp only at k1 k2 k3 k4
  unfold label_Sorted_lp1
  dsimp only
  by_cases c : b ≤ (r.length : Int)
  · left
    obtain ⟨d', hs, hl⟩ := ins2 (d := e) (a := a) (b := b) k2 (by omega) (by omega)
    rw [bifTd c, w64_id (x := a + 1) (by omega) (by omega), lett_eq, hs, flow_go, bind_some, lett_eq, w64_id (by omega) (by omega)]
    exact ⟨_, rfl, ⟨by dsimp only; omega, by dsimp only; omega, by dsimp only; omega, rfl⟩, by dsimp only; omega⟩
  · right
    rw [bifFd c]
    exact ⟨_, rfl, k1, k2, k3⟩
theorem ins4 {r d : List api_Pair} {a : Int} (hr : r.length = d.length) (h0 : 0 ≤ a) (hn : d.length ≤ 100000) : ∃ d', loop (label_Sorted_lp4 r a) (d, a + 1) = some (.go d') ∧ d'.length = d.length := by
  refine loop_tot (fun (s : List api_Pair × Int) => (d.length - s.2).toNat) (fun (s : List api_Pair × Int) => s.1.length = d.length ∧ a < s.2) (fun (x : List api_Pair) => x.length = d.length) ?_ _ ⟨rfl, by dsimp only; omega⟩
  rintro ⟨e, k⟩ ⟨k1, k2⟩
  dsimp only at k1 k2
  unfold label_Sorted_lp4
  dsimp only
  by_cases c : k < (r.length : Int)
  · left
    obtain ⟨d', hs, hl⟩ := ins5 (d := e) (a := a) (j := k) h0 (by omega) (by omega) (by omega)
    rw [bifTd c, hs, flow_go, bind_some, lett_eq, w64_id (by omega) (by omega)]
    exact ⟨_, rfl, ⟨by dsimp only; omega, by dsimp only; omega⟩, by dsimp only; omega⟩
  · right
    rw [bifFd c]
    exact ⟨_, rfl, k1⟩
theorem mer7 {r d : List api_Pair} {q : Int} (hr : r.length = d.length) (h0 : 0 < q) (hq : q < d.length) (hn : d.length ≤ 100000) : ∃ x : List api_Pair × Int, loop (label_Sorted_lp7 r q) (d, 0, 2 * q) = some (.go x) ∧ x.1.length = d.length ∧ 0 ≤ x.2 ∧ x.2 ≤ d.length := by
  refine loop_tot (fun (s : List api_Pair × Int × Int) => (d.length + 2 * q - s.2.2).toNat) (fun (s : List api_Pair × Int × Int) => s.1.length = d.length ∧ 0 ≤ s.2.1 ∧ s.2.1 ≤ d.length ∧ s.2.2 = s.2.1 + 2 * q) (fun (x : List api_Pair × Int) => x.1.length = d.length ∧ 0 ≤ x.2 ∧ x.2 ≤ d.length) ?_ _ ⟨rfl, by dsimp only; omega, by dsimp only; omega, by dsimp only; omega⟩
  rintro ⟨e, a, b⟩ ⟨k1, k2, k3, k4⟩
  dsimp only at k1 k2 k3 k4
  unfold label_Sorted_lp7
  dsimp only
  by_cases c : b ≤ (r.length : Int)
  · left
    obtain ⟨d', hs, hl⟩ := sm_tot (d := e) (a := a) (m := a + q) (b := b) ⟨k2, by omega, by omega, by omega, by omega⟩
    rw [bifTd c, w64_id (x := a + q) (by omega) (by omega), hs, bind_some, lett_eq, w64_id (x := 2 * q) (by omega) (by omega), w64_id (by omega) (by omega)]
    exact ⟨_, rfl, ⟨by dsimp only; omega, by dsimp only; omega, by dsimp only; omega, by dsimp only⟩, by dsimp only; omega⟩
  · right
    rw [bifFd c]
    exact ⟨_, rfl, k1, k2, k3⟩
theorem mer6 {r d : List api_Pair} (hr : r.length = d.length) (hn : d.length ≤ 100000) : ∃ x : List api_Pair, loop (label_Sorted_lp6 r) (d, 20) = some (.go x) ∧ x.length = d.length := by
  refine loop_tot (fun (s : List api_Pair × Int) => (d.length - s.2).toNat) (fun (s : List api_Pair × Int) => s.1.length = d.length ∧ 0 < s.2) (fun (x : List api_Pair) => x.length = d.length) ?_ _ ⟨rfl, by dsimp only; omega⟩
  rintro ⟨e, q⟩ ⟨k1, k2⟩
  dsimp only at k1 k2
  unfold label_Sorted_lp6
  dsimp only
  by_cases c : q < (r.length : Int)
  · left
    obtain ⟨⟨e1, a⟩, hs, l1, a1, a2⟩ := mer7 (r := r) (d := e) (q := q) (by omega) k2 (by omega) (by omega)
    dsimp only at l1 a1 a2
    rw [bifTd c, w64_id (x := 2 * q) (by omega) (by omega), lett_eq, hs, flow_go]
    dsimp only
    rw [bind_some]
    dsimp only
    rw [w64_id (x := a + q) (by omega) (by omega), lett_eq]
    by_cases c2 : a + q < (r.length : Int)
    · obtain ⟨e2, hs2, l2⟩ := sm_tot (d := e1) (a := a) (m := a + q) (b := (r.length : Int)) ⟨a1, by omega, by omega, by omega, by omega⟩
      rw [bifTd c2, hs2, bind_some, bind_some, lett_eq, bind_some, w64_id (by omega) (by omega)]
      exact ⟨_, rfl, ⟨by dsimp only; omega, by dsimp only; omega⟩, by dsimp only; omega⟩
    · rw [bifFd c2, bind_some, lett_eq, bind_some, w64_id (by omega) (by omega)]
      exact ⟨_, rfl, ⟨by dsimp only; omega, by dsimp only; omega⟩, by dsimp only; omega⟩
  · right
    rw [bifFd c]
    exact ⟨_, rfl, k1⟩
/-- sorting gives a row of the same length, whatever the row -/
theorem sorted_tot {l : List api_Pair} (hn : l.length ≤ 100000) : ∃ s, label_Sorted l = some s ∧ s.length = l.length := by
  obtain ⟨⟨d1, a⟩, h1, l1, a1, a2⟩ := ins1 (r := l) (d := l) rfl hn
  dsimp only at l1 a1 a2
  obtain ⟨d2, h2, l2⟩ := ins4 (r := l) (d := d1) (a := a) l1.symm a1 (by omega)
  obtain ⟨d3, h3, l3⟩ := mer6 (r := l) (d := d2) (by omega) (by omega)
  refine ⟨d3, ?_, by omega⟩
  unfold label_Sorted slices_Clone_api_Pair_api_Pair
  rw [app_ok (by simp only [List.length_nil]; omega), bind_some, List.nil_append, h1, flow_go]
  dsimp only
  rw [bind_some]
  dsimp only
  rw [lett_eq, w64_id (x := a + 1) (by omega) (by omega), h2, flow_go, bind_some, h3, flow_go, bind_some, bind_some]
end Go.Lg
namespace Go.Lg
attribute [local irreducible] w64 toU64 toU8 shlU shrU shlB shrB
def sz1 (l : List api_Fld) : Nat := (l.map fun f => f.B.length + 1).sum
theorem sz1_cons (f : api_Fld) (l : List api_Fld) : sz1 (f :: l) = f.B.length + 1 + sz1 l := by simp [sz1]
theorem sz1_app (l m : List api_Fld) : sz1 (l ++ m) = sz1 l + sz1 m := by simp [sz1]
theorem sz1_enc {l : List api_Fld} (h : ∀ f ∈ l, FOk f) : sz1 l ≤ (encL l).length := by
  induction l with
  | nil => exact Nat.zero_le _
  | cons f l ih =>
    have h1 := ih fun g hg => h g (by simp [hg])
    have h2 := encF_ge (h f (by simp))
    rw [sz1_cons, encL_cons, List.length_append]; omega
theorem sz1_len (l : List api_Fld) : l.length ≤ sz1 l := by
  induction l with
  | nil => exact Nat.zero_le _
  | cons f l ih => rw [sz1_cons, List.length_cons]; omega
theorem sz1_mem {l : List api_Fld} {f : api_Fld} (h : f ∈ l) : f.B.length + 1 ≤ sz1 l := by
  induction l with
  | nil => cases h
  | cons g l ih =>
    rw [sz1_cons]
    rcases List.mem_cons.1 h with rfl | h
    · omega
    · have := ih h; omega
theorem sz1_with (l : List api_Fld) (n : Int) : sz1 (withN l n) ≤ sz1 l := by
  induction l with
  | nil => exact Nat.le_refl _
  | cons f l ih =>
    have e : withN (f :: l) n = (if f.Num = n then [f] else []) ++ withN l n := by
      rw [show f :: l = [f] ++ l from rfl, withN_app, with_one]
    rw [e, sz1_app, sz1_cons]
    have : sz1 (if f.Num = n then [f] else []) ≤ f.B.length + 1 := by
      split
      · rw [sz1_cons]; show _ + 0 ≤ _; omega
      · exact Nat.zero_le _
    omega
theorem allA {l : List api_Fld} (h : sz1 l ≤ 100000) (n : Int) : wire_All l n = some (withN l n) := by
  have := sz1_len l
  exact All31 (by omega) (fun i hi => by have := sz1_mem (List.getElem_mem hi); omega) n
theorem lastA {l : List api_Fld} (h : sz1 l ≤ 100000) (n : Int) : otlp_last l n = some (lastN l n) := by
  have := sz1_len l
  exact last_eq (by omega) (fun i hi => by have := sz1_mem (List.getElem_mem hi); omega) n
theorem lastA_B {l : List api_Fld} {n : Int} : (lastN l n).B.length ≤ sz1 l := by
  unfold lastN
  cases h : (withN l n).getLast? with
  | none => exact Nat.zero_le _
  | some f =>
    have h1 := sz1_mem (List.mem_of_getLast? h)
    have h2 := sz1_with l n
    show f.B.length ≤ _
    omega
theorem failA (c : Int) (out : List api_Point) (b : Bool) (n : Int) : ∃ c', otlp_reader_fail ⟨c, out⟩ b n = some ⟨c', out⟩ := by
  rw [fail_eq]
  split
  · exact ⟨_, rfl⟩
  · exact ⟨_, rfl⟩
theorem openlpA (r : otlp_reader) (want : List (Int × Int)) {l : List api_Fld} (hl : l.length ≤ 1000000) (c : Int) : ∃ c', loop (otlp_reader_open_lp1 r want l) (c, 0) = some (.go c') := by
  have L := loop_tot (f := otlp_reader_open_lp1 r want l) (fun s => (l.length - s.2).toNat) (fun s => 0 ≤ s.2) (fun _ => True) (by
    rintro ⟨k, i⟩ k1
    dsimp only at k1
    unfold otlp_reader_open_lp1
    dsimp only
    by_cases h : i < (l.length : Int)
    · left
      obtain ⟨f, hf⟩ := idx_ex k1 h
      rw [bifTd h, hf, bind_some, lett_eq, lett_eq]
      obtain ⟨c', hc⟩ := failA k r.out ((mget want f.Num).isSome && !decide ((mget want f.Num).getD 0 = f.Type_)) 14
      rw [hc, bind_some, w64_id (by omega) (by omega)]
      exact ⟨_, rfl, by dsimp only; omega, by dsimp only; omega⟩
    · right
      rw [bifFd h]
      exact ⟨_, rfl, trivial⟩) (c, 0) (Int.le_refl _)
  obtain ⟨c', h, _⟩ := L
  exact ⟨c', h⟩
theorem openA (c : Int) (out : List api_Point) {b : List UInt8} (hb : b.length ≤ 100000) (want : List (Int × Int)) : ∃ l c', otlp_reader_open ⟨c, out⟩ b want = some (l, ⟨c', out⟩) ∧ sz1 l ≤ b.length := by
  unfold otlp_reader_open
  dsimp only
  by_cases h : c = 0
  case neg =>
    rw [bifT (by simp [h])]
    exact ⟨[], c, rfl, Nat.zero_le _⟩
  rw [bifF (by simp [h])]
  have key : ∀ (L : List api_Fld) (a e : Int), L.length ≤ 1000000 → sz1 L ≤ b.length → wire_Decode b = some (L, a, e) → ∃ l c', ((wire_Decode b).bind fun (r16, r17, r18) => (otlp_reader_fail ⟨c, out⟩ (!decide (r18 = 0)) r18).bind fun r31 =>
      (flow (loop (otlp_reader_open_lp1 ⟨c, out⟩ want r16) (r31.e, 0)) fun c57 => some c57 : Option Int).bind fun c44 =>
      bif (!decide (c44 = 0)) then some ([], (otlp_reader.mk c44 out)) else some (r16, (otlp_reader.mk c44 out))) = some (l, ⟨c', out⟩) ∧ sz1 l ≤ b.length := by
    intro L a e hL hs hd
    obtain ⟨c1, h1⟩ := failA c out (!decide (e = 0)) e
    obtain ⟨c2, h2⟩ := openlpA ⟨c, out⟩ want hL c1
    rw [hd, bind_some]
    dsimp only
    rw [h1, bind_some]
    dsimp only
    rw [h2, flow_go, bind_some]
    cases (!decide (c2 = 0))
    · exact ⟨L, c2, rfl, hs⟩
    · exact ⟨[], c2, rfl, Nat.zero_le _⟩
  rcases decode_both (b := b) (by omega) with ⟨L, h1, _, h3, h4, h5⟩ | ⟨a, e, _, h1, _⟩
  · have hs := sz1_enc h3
    rw [h4] at hs
    exact key L 0 0 (by omega) hs h1
  · exact key [] a e (Nat.zero_le _) (Nat.zero_le _) h1
theorem attrsA (c : Int) (out : List api_Point) {l : List api_Fld} (hs : sz1 l ≤ 10000) : ∃ ps c', otlp_reader_attrs ⟨c, out⟩ l = some (ps, ⟨c', out⟩) ∧ ps.length ≤ sz1 l := by
  have hl := sz1_len l
  have L := loop_tot (f := otlp_reader_attrs_lp1 ⟨c, out⟩ l) (fun s => (l.length - s.2.2).toNat) (fun s => 0 ≤ s.2.2 ∧ s.2.2 ≤ l.length ∧ (s.2.1.length : Int) = s.2.2) (fun x => x.2.length ≤ l.length) (by
    rintro ⟨k, ps, i⟩ ⟨k1, k2, k3⟩
    dsimp only at k1 k2 k3
    unfold otlp_reader_attrs_lp1
    dsimp only
    by_cases h : i < (l.length : Int)
    · left
      obtain ⟨n, rfl⟩ : ∃ n : Nat, i = n := ⟨i.toNat, by omega⟩
      have hn : n < l.length := by omega
      have hm := sz1_mem (List.getElem_mem hn)
      obtain ⟨q, c1, h1, h2⟩ := openA k out (b := l[n].B) (by omega) [(1, 2), (2, 2)]
      rw [bifTd h, idx_nat hn, bind_some, h1, bind_some]
      dsimp only
      rw [lastA (by omega), bind_some, lastA (by omega), bind_some, bind_some, app_ok (by simp only [List.length_singleton]; omega), bind_some, w64_id (by omega) (by omega)]
      exact ⟨_, rfl, ⟨by dsimp only; omega, by dsimp only; omega, by dsimp only; rw [List.length_append]; simp only [List.length_singleton]; omega⟩, by dsimp only; omega⟩
    · right
      rw [bifFd h]
      exact ⟨_, rfl, by dsimp only; omega⟩) (c, [], 0) ⟨Int.le_refl _, by dsimp only; omega, rfl⟩
  obtain ⟨⟨c', ps⟩, h1, h2⟩ := L
  dsimp only at h2
  unfold otlp_reader_attrs
  dsimp only
  rw [h1, flow_go]
  exact ⟨ps, c', rfl, by omega⟩
theorem wideA (c : Int) (out : List api_Point) (v : UInt64) : ∃ x c', otlp_reader_wide ⟨c, out⟩ v = some (x, ⟨c', out⟩) ∧ I64 x := by
  unfold otlp_reader_wide
  obtain ⟨c1, h1⟩ := failA c out ((decide (1099511627776 < zag v.toNat)) || (decide (zag v.toNat < (-1099511627776)))) 4
  rw [zag_eq, bind_some, h1, bind_some]
  exact ⟨_, _, rfl, zag_I64 (UInt64.toNat_lt v)⟩
theorem sideA (c : Int) (out : List api_Point) {b : List UInt8} (hb : b.length ≤ 2500) : ∃ s c', otlp_reader_side ⟨c, out⟩ b = some (s, ⟨c', out⟩) ∧ I64 s.Offset ∧ s.Counts.length ≤ 2500 ∧ (packL s.Counts).length ≤ 2500 := by
  unfold otlp_reader_side
  obtain ⟨l, c1, h1, h2⟩ := openA c out (b := b) (by omega) [(1, 0), (2, 2)]
  obtain ⟨x, c2, h3, h4⟩ := wideA c1 out (lastN l 1).V
  have hB := lastA_B (l := l) (n := 2)
  rw [h1, bind_some]
  dsimp only
  rw [lastA (by omega), bind_some, h3, bind_some]
  dsimp only
  rw [lastA (by omega), bind_some]
  rcases Unpacked_any (b := (lastN l 2).B) (by omega) with ⟨w, hw, hp, hl⟩ | ⟨e, _, hw⟩
  · rw [hw, bind_some]
    dsimp only
    obtain ⟨c3, h5⟩ := failA c2 out (!decide ((0 : Int) = 0)) 0
    rw [h5, bind_some]
    exact ⟨_, _, rfl, h4, by dsimp only; omega, by dsimp only; rw [hp]; omega⟩
  · rw [hw, bind_some]
    dsimp only
    obtain ⟨c3, h5⟩ := failA c2 out (!decide (e = 0)) e
    rw [h5, bind_some]
    exact ⟨_, _, rfl, h4, Nat.zero_le _, Nat.zero_le _⟩
theorem formA {l : List api_Fld} (hs : sz1 l ≤ 10000) (k : Int) : ∃ t, otlp_form l k = some t := by
  have hl := sz1_len l
  unfold otlp_form
  rw [allA (by omega), bind_some, allA (by omega), bind_some]
  simp only [lett_eq]
  rw [hasW (by omega) (by decide), hasW (by omega) (by decide), bind_some, bind_some]
  generalize ([8, 9, 10, 11] : List Int).any (fun n => decide (withN l n ≠ [])) = A8
  generalize ([31] : List Int).any (fun n => decide (withN l n ≠ [])) = A31
  generalize ((decide (k = 2)) && (!decide (w64 (((withN l 4).length : Int) + ((withN l 6).length : Int)) = 1))) = B1
  generalize ((!decide (k = 2)) && (decide (0 < ((withN l 6).length : Int)))) = B2
  generalize (!decide (k = 5)) = B3
  generalize (!decide (k = 4)) = B4
  generalize ((decide (k = 4)) && (decide (0 < ((withN l 4).length : Int)))) = B5
  cases A8 <;> cases A31 <;> cases B1 <;> cases B2 <;> cases B3 <;> cases B4 <;> cases B5 <;> exact ⟨_, rfl⟩
def OutOk (out : List api_Point) : Prop := ∀ p ∈ out, EP p ∧ I64 p.Int_
theorem OutOk.snoc {out : List api_Point} {p : api_Point} (h : OutOk out) (e : EP p) (i : I64 p.Int_) : OutOk (out ++ [p]) := fun q hq => by
  rcases List.mem_append.1 hq with hq | hq
  · exact h q hq
  · rw [List.mem_singleton.1 hq]; exact ⟨e, i⟩
end Go.Lg
namespace Go.Lg
attribute [local irreducible] w64 toU64 toU8 shlU shrU shlB shrB
theorem kindA {l : List api_Fld} (hs : sz1 l ≤ 10000) (k : Int) : ∃ x y, ((otlp_has l [6]).bind fun r1144 => bif r1144 then (otlp_last l 6).bind fun r1155 => lett (w64 (r1155.V.toNat : Int)) fun t1173 => some (1, t1173) else some (k, 0) : Option (Int × Int)) = some (x, y) ∧ I64 y := by
  have hl := sz1_len l
  rw [hasW (by omega) (by decide), bind_some]
  cases ([6] : List Int).any (fun n => decide (withN l n ≠ []))
  · exact ⟨_, _, rfl, by unfold I64; omega⟩
  · rw [cond_true, lastA (by omega), bind_some, lett_eq]
    exact ⟨_, _, rfl, sg_I64 _⟩
theorem histA {l : List api_Fld} (hs : sz1 l ≤ 2500) (k c : Int) (out : List api_Point) : ∃ c' sc z po pc no nc, (bif decide (k = 4) then
     (otlp_last l 8).bind fun r1242 =>
     (otlp_reader_wide (otlp_reader.mk c out) r1242.V).bind fun (r1265, r1266) =>
     (otlp_last l 9).bind fun r1279 =>
     (otlp_last l 10).bind fun r1303 =>
     (otlp_reader_side (otlp_reader.mk r1266.e out) r1303.B).bind fun (r1319, r1320) =>
     (otlp_last l 11).bind fun r1346 =>
     (otlp_reader_side (otlp_reader.mk r1320.e out) r1346.B).bind fun (r1360, r1361) =>
     some (r1361.e, r1265, r1279.V, r1319.Offset, r1319.Counts, r1360.Offset, r1360.Counts)
     else
     some (c, 0, 0, 0, [], 0, []) : Option (Int × Int × UInt64 × Int × List UInt64 × Int × List UInt64)) = some (c', sc, z, po, pc, no, nc) ∧
    OkH (api_Hist.mk sc z (api_Side.mk po pc) (api_Side.mk no nc)) ∧ (packL pc).length ≤ 3000 ∧ (packL nc).length ≤ 3000 := by
  by_cases h : k = 4
  · obtain ⟨x, c1, h1, i1⟩ := wideA c out (lastN l 8).V
    have b10 := lastA_B (l := l) (n := 10)
    have b11 := lastA_B (l := l) (n := 11)
    obtain ⟨s, c2, h2, i2, l2, p2⟩ := sideA c1 out (b := (lastN l 10).B) (by omega)
    obtain ⟨t, c3, h3, i3, l3, p3⟩ := sideA c2 out (b := (lastN l 11).B) (by omega)
    refine ⟨c3, x, (lastN l 9).V, s.Offset, s.Counts, t.Offset, t.Counts, ?_, ⟨i1, i2, i3, by dsimp only; omega, by dsimp only; omega⟩, by omega, by omega⟩
    rw [bifTd h, lastA (by omega), bind_some, h1, bind_some]
    dsimp only
    rw [lastA (by omega), bind_some, lastA (by omega), bind_some, h2, bind_some]
    dsimp only
    rw [lastA (by omega), bind_some, h3, bind_some]
  · refine ⟨c, 0, 0, 0, [], 0, [], by rw [bifFd h], H0_ok, Nat.zero_le _, Nat.zero_le _⟩
set_option maxHeartbeats 2000000 in
theorem lp4A {shared : List api_Pair} {k cT : Int} {f3 f1 : api_Fld} {r : List api_Fld} {c : Int} {out : List api_Point} (hsh : shared.length ≤ 2500) (hr : sz1 r ≤ 2500) (ho : OutOk out) (hl : out.length ≤ 100000) :
    ∃ x : Int × List api_Point, loop (otlp_Decode_lp4 shared k f3 f1 cT r) (c, out, 0) = some (.go x) ∧ OutOk x.2 ∧ x.2.length ≤ out.length + r.length := by
  have hrl := sz1_len r
  refine loop_tot (fun (s : Int × List api_Point × Int) => (r.length - s.2.2).toNat) (fun (s : Int × List api_Point × Int) => 0 ≤ s.2.2 ∧ s.2.2 ≤ r.length ∧ OutOk s.2.1 ∧ (s.2.1.length : Int) ≤ out.length + s.2.2) (fun (x : Int × List api_Point) => OutOk x.2 ∧ x.2.length ≤ out.length + r.length) ?_ _ ⟨Int.le_refl _, by dsimp only; omega, ho, by dsimp only; omega⟩
  rintro ⟨c0, o0, i⟩ ⟨k1, k2, k3, k4⟩
  dsimp only at k1 k2 k3 k4
  unfold otlp_Decode_lp4
  dsimp only
  by_cases h : i < (r.length : Int)
  case neg =>
    right
    rw [bifFd h]
    exact ⟨_, rfl, k3, by dsimp only; omega⟩
  left
  obtain ⟨n, rfl⟩ : ∃ n : Nat, i = n := ⟨i.toNat, by omega⟩
  have hn : n < r.length := by omega
  have hm := sz1_mem (List.getElem_mem hn)
  obtain ⟨l, c1, h1, h2⟩ := openA c0 o0 (b := r[n].B) (by omega) [(2, 1), (3, 1), (4, 1), (6, 1), (7, 2), (8, 0), (9, 0), (10, 2), (11, 2), (31, 1)]
  have hll := sz1_len l
  obtain ⟨t, h3⟩ := formA (l := l) (by omega) k
  obtain ⟨c2, h4⟩ := failA c1 o0 (!t) 3
  obtain ⟨c3, h5⟩ := failA c2 o0 ((decide (9007199254740992 < (lastN l 2).V)) || (decide (9007199254740992 < (lastN l 3).V))) 4
  rw [bifTd h, idx_nat hn, bind_some, h1, bind_some]
  dsimp only
  rw [h3, bind_some, h4, bind_some, lastA (by omega), bind_some, lastA (by omega), bind_some, h5, bind_some]
  dsimp only
  by_cases hc3 : c3 = 0
  case neg =>
    rw [bifT (by simp [hc3]), bind_some]
    dsimp only
    rw [w64_id (by omega) (by omega)]
    exact ⟨_, rfl, ⟨by dsimp only; omega, by dsimp only; omega, k3, by dsimp only; omega⟩, by dsimp only; omega⟩
  have h7 := sz1_with l 7
  obtain ⟨ps, c4, h6, l6⟩ := attrsA c3 o0 (l := withN l 7) (by omega)
  obtain ⟨srt1, h8, l8⟩ := sorted_tot (l := shared ++ ps) (by rw [List.length_append]; omega)
  obtain ⟨kx, ky, h9, i9⟩ := kindA (l := l) (by omega) k
  obtain ⟨c5, sc, z, po, pc, no, nc, h10, ok, pp, pn⟩ := histA (l := l) (by omega) kx c4 o0
  rw [bifF (by simp [hc3]), lett_eq, lett_eq, allA (by omega), bind_some, h6, bind_some]
  dsimp only
  rw [concat31 (by omega) (by omega), bind_some, h8, bind_some, h9, bind_some]
  dsimp only
  rw [lastA (by omega), bind_some, lastA (by omega), bind_some, h10, bind_some]
  dsimp only
  obtain ⟨q, hq⟩ : ∃ q, q = api_Point.mk f1.B srt1 kx cT (decide (f3.V = 1)) (w64 ((lastN l 2).V.toNat : Int)) (w64 ((lastN l 3).V.toNat : Int)) ky (lastN l 4).V (lastN l 31).V (api_Hist.mk sc z (api_Side.mk po pc) (api_Side.mk no nc)) 0 := ⟨_, rfl⟩
  rw [← hq]
  have qo : OkH q.Hist := by rw [hq]; exact ok
  by_cases hc5 : c5 = 0
  case neg =>
    rw [bifFd hc5, bind_some, bifFd hc5, bind_some]
    dsimp only
    rw [w64_id (by omega) (by omega)]
    exact ⟨_, rfl, ⟨by dsimp only; omega, by dsimp only; omega, k3, by dsimp only; omega⟩, by dsimp only; omega⟩
  rw [bifTd hc5, chk_eq qo, bind_some, fail_eq]
  by_cases hch : chkE q = 0
  · have e : EP q := ⟨hch, by rw [hq], qo, by rw [hq]; exact pp, by rw [hq]; exact pn⟩
    have qi : I64 q.Int_ := by rw [hq]; exact i9
    rw [hch, if_neg (by simp), bind_some, bind_some]
    dsimp only
    rw [bifTd hc5, app_ok (by simp only [List.length_singleton]; omega), bind_some, bind_some]
    dsimp only
    rw [w64_id (by omega) (by omega)]
    exact ⟨_, rfl, ⟨by dsimp only; omega, by dsimp only; omega, k3.snoc e qi, by dsimp only; rw [List.length_append]; simp only [List.length_singleton]; omega⟩, by dsimp only; omega⟩
  · rw [if_pos ⟨by simp [hch], hc5⟩, bind_some, bind_some]
    dsimp only
    rw [bifFd hch, bind_some]
    dsimp only
    rw [w64_id (by omega) (by omega)]
    exact ⟨_, rfl, ⟨by dsimp only; omega, by dsimp only; omega, k3, by dsimp only; omega⟩, by dsimp only; omega⟩
theorem lp3A {l : List api_Fld} (hs : sz1 l ≤ 10000) : loop (otlp_Decode_lp3 l) ([], 0) = some (.go (withN l 5 ++ withN l 7 ++ withN l 10 ++ withN l 30)) := by
  have hl := sz1_len l
  have q5 := withN_len l 5; have q7 := withN_len l 7; have q10 := withN_len l 10; have q30 := withN_len l 30
  refine (loop_next (s' := (withN l 5, 1)) ?_).trans ((loop_next (s' := (withN l 5 ++ withN l 7, 2)) ?_).trans ((loop_next (s' := (withN l 5 ++ withN l 7 ++ withN l 10, 3)) ?_).trans ((loop_next (s' := (withN l 5 ++ withN l 7 ++ withN l 10 ++ withN l 30, 4)) ?_).trans (loop_brk ?_))))
  · unfold otlp_Decode_lp3
    dsimp only
    rw [bifTd (by decide), show idx ([5, 7, 10, 30] : List Int) 0 = some 5 from rfl, bind_some, allA (by omega), bind_some, app_ok (by simp only [List.length_nil]; omega), bind_some, w64_id (by omega) (by omega)]; rfl
  · unfold otlp_Decode_lp3
    dsimp only
    rw [bifTd (by decide), show idx ([5, 7, 10, 30] : List Int) 1 = some 7 from rfl, bind_some, allA (by omega), bind_some, app_ok (by omega), bind_some, w64_id (by omega) (by omega)]; rfl
  · unfold otlp_Decode_lp3
    dsimp only
    rw [bifTd (by decide), show idx ([5, 7, 10, 30] : List Int) 2 = some 10 from rfl, bind_some, allA (by omega), bind_some, app_ok (by rw [List.length_append]; omega), bind_some, w64_id (by omega) (by omega)]; rfl
  · unfold otlp_Decode_lp3
    dsimp only
    rw [bifTd (by decide), show idx ([5, 7, 10, 30] : List Int) 3 = some 30 from rfl, bind_some, allA (by omega), bind_some, app_ok (by rw [List.length_append, List.length_append]; omega), bind_some, w64_id (by omega) (by omega)]; rfl
  · unfold otlp_Decode_lp3
    dsimp only
    rw [bifFd (by decide)]
end Go.Lg
namespace Go.Lg
attribute [local irreducible] w64 toU64 toU8 shlU shrU shlB shrB
theorem sz1_take {r : List api_Fld} {n : Nat} (h : n < r.length) : sz1 (r.take (n + 1)) = sz1 (r.take n) + (r[n].B.length + 1) := by
  have ht : r.take (n + 1) = r.take n ++ [r[n]] := by rw [List.take_add_one, List.getElem?_eq_getElem h]; rfl
  rw [ht, sz1_app, sz1_cons]; rfl
theorem tempA (v : UInt64) : ∃ t, (bif decide (0 < v) then lett (w64 (((3 : UInt64) - (minU v (2 : UInt64))).toNat : Int)) fun t664 => some t664 else some 0 : Option Int) = some t := by
  cases decide (0 < v)
  · exact ⟨_, rfl⟩
  · exact ⟨_, rfl⟩
set_option maxHeartbeats 2000000 in
theorem lp2A {shared : List api_Pair} {r : List api_Fld} {c : Int} {out : List api_Point} (hsh : shared.length ≤ 2500) (hr : sz1 r ≤ 2500) (ho : OutOk out) (hl : out.length ≤ 50000) :
    ∃ x : Int × List api_Point, loop (otlp_Decode_lp2 r) (c, out, shared, 0) = some (.go x) ∧ OutOk x.2 ∧ x.2.length ≤ out.length + sz1 r := by
  have hrl := sz1_len r
  refine loop_tot (fun (s : Int × List api_Point × List api_Pair × Int) => (r.length - s.2.2.2).toNat) (fun (s : Int × List api_Point × List api_Pair × Int) => ∃ n : Nat, s.2.2.2 = n ∧ n ≤ r.length ∧ OutOk s.2.1 ∧ s.2.1.length ≤ out.length + sz1 (r.take n) ∧ s.2.2.1 = shared) (fun (x : Int × List api_Point) => OutOk x.2 ∧ x.2.length ≤ out.length + sz1 r) ?_ _ ⟨0, rfl, Nat.zero_le _, ho, Nat.le_add_right _ _, rfl⟩
  rintro ⟨c0, o0, s0, i⟩ ⟨n, k1, k2, k3, k4, k5⟩
  dsimp only at k1 k3 k4 k5
  subst k1
  subst k5
  unfold otlp_Decode_lp2
  dsimp only
  by_cases h : n < r.length
  case neg =>
    right
    rw [bifFd (by omega)]
    refine ⟨_, rfl, k3, ?_⟩
    dsimp only
    rw [List.take_of_length_le (by omega)] at k4
    exact k4
  left
  have hm := sz1_mem (List.getElem_mem h)
  have htk := sz1_take h
  have hlt : sz1 (r.take n) ≤ sz1 r := by
    have e := sz1_app (r.take n) (r.drop n)
    rw [List.take_append_drop] at e
    omega
  have fin : ∀ (c' : Int) (o' : List api_Point), OutOk o' → o'.length ≤ o0.length + r[n].B.length →
      (∃ s', some (Rnd.next (c', o', s0, w64 ((n : Int) + 1)) : Rnd (Int × List api_Point × List api_Pair × Int) (Int × List api_Point) (Int × List api_Point)) = some (.next s') ∧ (∃ m : Nat, s'.2.2.2 = m ∧ m ≤ r.length ∧ OutOk s'.2.1 ∧ s'.2.1.length ≤ out.length + sz1 (r.take m) ∧ s'.2.2.1 = s0) ∧ (r.length - s'.2.2.2).toNat < (r.length - (n : Int)).toNat) := by
    intro c' o' h1 h2
    rw [w64_succ (by omega)]
    exact ⟨_, rfl, ⟨n + 1, rfl, by omega, h1, by dsimp only; omega, rfl⟩, by dsimp only; omega⟩
  obtain ⟨l, c1, h1, h2⟩ := openA c0 o0 (b := r[n].B) (by omega) [(1, 2), (5, 2), (7, 2), (10, 2), (30, 2)]
  have hll := sz1_len l
  rw [bifTd (by omega), idx_nat h, bind_some, h1, bind_some]
  dsimp only
  rw [lp3A (by omega), flow_go, bind_some]
  generalize hF : withN l 5 ++ withN l 7 ++ withN l 10 ++ withN l 30 = F
  have hFl : ∀ f ∈ F, f ∈ l := by
    intro f hf
    rw [← hF] at hf
    rcases List.mem_append.1 hf with hf | hf
    · rcases List.mem_append.1 hf with hf | hf
      · rcases List.mem_append.1 hf with hf | hf
        · exact (List.mem_filter.1 hf).1
        · exact (List.mem_filter.1 hf).1
      · exact (List.mem_filter.1 hf).1
    · exact (List.mem_filter.1 hf).1
  by_cases hF1 : F.length = 1
  case neg =>
    obtain ⟨c2, hc2, hne⟩ : ∃ c2, otlp_reader_fail ⟨c1, o0⟩ (!decide ((F.length : Int) = 1)) 3 = some ⟨c2, o0⟩ ∧ c2 ≠ 0 := by
      rw [fail_eq]
      by_cases hc : c1 = 0
      · rw [if_pos ⟨by rw [decide_eq_false (by omega)]; rfl, hc⟩]; exact ⟨3, rfl, by decide⟩
      · rw [if_neg (fun q => hc q.2)]; exact ⟨c1, rfl, hc⟩
    rw [hc2, bind_some]
    dsimp only
    rw [bifT (by simp [hne]), bind_some]
    exact fin c2 o0 k3 (by omega)
  rw [show (!decide ((F.length : Int) = 1)) = false by rw [decide_eq_true (by omega)]; rfl, fail_no, bind_some]
  dsimp only
  by_cases hc : c1 = 0
  case neg =>
    rw [bifT (by simp [hc]), bind_some]
    exact fin c1 o0 k3 (by omega)
  obtain ⟨f0, hf0⟩ : ∃ f0, F = [f0] := List.length_eq_one_iff.1 hF1
  have m0 := sz1_mem (hFl f0 (by rw [hf0]; exact List.mem_singleton.2 rfl))
  rw [hf0, bifF (by simp [hc]), show idx [f0] 0 = some f0 from rfl, bind_some, lett_eq, bind_some]
  obtain ⟨l2, c2, h3, h4⟩ := openA c1 o0 (b := f0.B) (by omega) [(1, 2), (2, 0), (3, 0)]
  obtain ⟨c3, h5⟩ := failA c2 o0 ((decide (2 < (lastN l2 2).V)) || (decide (1 < (lastN l2 3).V))) 3
  obtain ⟨t, ht⟩ := tempA (lastN l2 2).V
  have w1 := sz1_with l2 1
  have w1l := sz1_len (withN l2 1)
  rw [h3, bind_some]
  dsimp only
  rw [lastA (by omega), bind_some, lastA (by omega), bind_some, h5, bind_some]
  dsimp only
  rw [lastA (by omega), bind_some, ht, bind_some, allA (by omega), bind_some]
  obtain ⟨⟨c4, o4⟩, h6, h7, h8⟩ := lp4A (shared := s0) (k := (mget [(5, 3), (7, 2), (10, 4), (30, 5)] f0.Num).getD 0) (cT := t) (f3 := lastN l2 3) (f1 := lastN l 1) (r := withN l2 1) (c := c3) (out := o0) hsh (by omega) k3 (by omega)
  dsimp only at h7 h8
  rw [h6, flow_go]
  dsimp only
  rw [bind_some]
  exact fin c4 o4 h7 (by omega)
set_option maxHeartbeats 2000000 in
theorem lp1A {r : List api_Fld} {c : Int} (hr : sz1 r ≤ 2500) : ∃ x : Int × List api_Point, loop (otlp_Decode_lp1 r) (c, [], 0) = some (.go x) ∧ OutOk x.2 ∧ x.2.length ≤ sz1 r := by
  have hrl := sz1_len r
  refine loop_tot (fun (s : Int × List api_Point × Int) => (r.length - s.2.2).toNat) (fun (s : Int × List api_Point × Int) => ∃ n : Nat, s.2.2 = n ∧ n ≤ r.length ∧ OutOk s.2.1 ∧ s.2.1.length ≤ sz1 (r.take n)) (fun (x : Int × List api_Point) => OutOk x.2 ∧ x.2.length ≤ sz1 r) ?_ _ ⟨0, rfl, Nat.zero_le _, fun _ hp => (by cases hp), Nat.zero_le _⟩
  rintro ⟨c0, o0, i⟩ ⟨n, k1, k2, k3, k4⟩
  dsimp only at k1 k3 k4
  subst k1
  unfold otlp_Decode_lp1
  dsimp only
  by_cases h : n < r.length
  case neg =>
    right
    rw [bifFd (by omega)]
    refine ⟨_, rfl, k3, ?_⟩
    dsimp only
    rw [List.take_of_length_le (by omega)] at k4
    exact k4
  left
  have hm := sz1_mem (List.getElem_mem h)
  have htk := sz1_take h
  have hlt : sz1 (r.take n) ≤ sz1 r := by
    have e := sz1_app (r.take n) (r.drop n)
    rw [List.take_append_drop] at e
    omega
  obtain ⟨l, c1, h1, h2⟩ := openA c0 o0 (b := r[n].B) (by omega) [(1, 2), (2, 2)]
  have w1 := sz1_with l 1
  have w2 := sz1_with l 2
  obtain ⟨ps, c2, h3, h4⟩ := attrsA c1 o0 (l := withN l 1) (by omega)
  obtain ⟨⟨c3, o3⟩, h5, h6, h7⟩ := lp2A (shared := ps) (r := withN l 2) (c := c2) (out := o0) (by omega) (by omega) k3 (by omega)
  dsimp only at h6 h7
  rw [bifTd (by omega), idx_nat h, bind_some, h1, bind_some]
  dsimp only
  rw [allA (by omega), bind_some, h3, bind_some]
  dsimp only
  rw [allA (by omega), bind_some, h5, flow_go]
  dsimp only
  rw [bind_some]
  dsimp only
  rw [w64_succ (by omega)]
  exact ⟨_, rfl, ⟨n + 1, rfl, by omega, h6, by dsimp only; omega⟩, by dsimp only; omega⟩
theorem decodeA {b : List UInt8} (hb : b.length ≤ 2000) : ∃ ps e, otlp_Decode b = some (ps, e) ∧ (e ≠ 0 → ps = []) ∧ OutOk ps ∧ ps.length ≤ 2500 := by
  obtain ⟨l, c1, h1, h2⟩ := openA 0 [] (b := b) (by omega) [(1, 2)]
  have w1 := sz1_with l 1
  obtain ⟨⟨c2, o2⟩, h3, h4, h5⟩ := lp1A (r := withN l 1) (c := c1) (by omega)
  dsimp only at h4 h5
  unfold otlp_Decode
  rw [h1, bind_some]
  dsimp only
  rw [allA (by omega), bind_some, h3, flow_go]
  dsimp only
  rw [bind_some]
  dsimp only
  by_cases h : c2 = 0
  · rw [bifF (by simp [h])]
    exact ⟨_, _, rfl, fun q => absurd rfl q, h4, by omega⟩
  · rw [bifT (by simp [h])]
    exact ⟨_, _, rfl, fun _ => rfl, fun _ hp => (by cases hp), Nat.zero_le _⟩
/-! ### there and back -/
theorem sameP31 {p : api_Point} (e : EP p) : ref12_Same p (canonP p) = some true := by
  obtain ⟨_, l2, _⟩ := e.lens
  have ga := ga_of (chk_label e.c)
  have hs : (srt p.Attrs).length ≤ 1000 := by rw [srt_length]; omega
  unfold ref12_Same
  rw [show (canonP p).Name = p.Name from rfl, show (canonP p).Attrs = srt p.Attrs from rfl, bifF (by simp), rsorted_eq _ (by omega), bind_some, rsorted_eq _ (by rw [srt_length]; omega), bind_some, srt_self ga.u, samePairs_self _ hs, bind_some, bind_some, bifF (by rfl)]
  rw [show (canonP p).Kind = p.Kind from rfl, show (canonP p).Temp = p.Temp from rfl, show (canonP p).Mono = p.Mono from rfl, show (canonP p).Start = p.Start from rfl, show (canonP p).Time = p.Time from rfl, show (canonP p).Int_ = p.Int_ from rfl, show (canonP p).Re = p.Re from rfl, show (canonP p).Im = p.Im from rfl, show (canonP p).Flags = p.Flags from rfl, show (canonP p).Hist = p.Hist from rfl,
    bifF (by simp), bifT (by simp), sameH_eq e.o.pl e.o.nl, bind_some, bind_some, decide_eq_true rfl]
theorem sameAll31 {ps : List api_Point} (he : ∀ p ∈ ps, EP p) (hn : ps.length ≤ 100000) : ref12_SameAll ps (ps.map canonP) = some true := by
  have hlm : (ps.map canonP).length = ps.length := List.length_map ..
  have L := loop_for (f := ref12_SameAll_lp1 ps (ps.map canonP)) (fun i => (i : Int)) ps.length (b := ()) (fun i hi => by
    unfold ref12_SameAll_lp1
    rw [bifTd (by omega), idx_nat hi, bind_some, idx_nat (by omega), bind_some, List.getElem_map, sameP31 (he _ (List.getElem_mem hi)), bind_some, bifF (by rfl), lett_eq, w64_succ (by omega)]) (by
    unfold ref12_SameAll_lp1
    rw [bifFd (by omega)])
  have L' : loop (ref12_SameAll_lp1 ps (ps.map canonP)) 0 = _ := L
  unfold ref12_SameAll
  rw [hlm, bifF (by simp), L', flow_go]
end Go.Lg
namespace Go.Lg
attribute [local irreducible] w64 toU64 toU8 shlU shrU shlB shrB
theorem outE_ep {ps : List api_Point} (he : ∀ p ∈ ps, EP p) : outE ps = if ps = [] then ([], 0) else (encL [sF 1 (ps.map metF)], 0) := by
  unfold outE
  have h : ps.find? (fun p => decide (badP p ≠ 0)) = none := by
    rw [List.find?_eq_none]
    intro p hp
    have := bad_zero.2 ⟨(he p hp).c, (he p hp).f⟩
    simp [this]
  rw [h]
theorem ep_of {ps : List api_Point} (hw : ∀ p ∈ ps, Wr p) (h : (outE ps).2 = 0) : ∀ p ∈ ps, EP p := by
  intro p hp
  have w := hw p hp
  unfold outE at h
  cases hf : ps.find? fun p => decide (badP p ≠ 0) with
  | some q =>
    rw [hf] at h
    have := List.find?_some hf
    simp only [ne_eq, decide_eq_true_eq] at this
    exact absurd h this
  | none =>
    have b := List.find?_eq_none.1 hf p hp
    have b0 : badP p = 0 := by simpa using b
    have k := bad_zero.1 b0
    exact ⟨k.1, k.2, w.o, w.pp, w.pn⟩
theorem back31 {ps : List api_Point} (he : ∀ p ∈ ps, EP p) (hI : ∀ p ∈ ps, I64 p.Int_) (hn : ps.length ≤ 10000) : (outE ps).2 = 0 ∧ otlp_Decode (outE ps).1 = some (ps.map canonP, 0) ∧ (outE ps).1.length ≤ 100000000 := by
  rw [outE_ep he]
  by_cases h : ps = []
  · rw [if_pos h, h]
    exact ⟨rfl, decode_0, Nat.zero_le _⟩
  · rw [if_neg h]
    refine ⟨rfl, decode_gen he hI hn, ?_⟩
    obtain ⟨m1, m2⟩ := mets_ok he
    have hz := sF_sz (n := 1) m1 m2 (by omega)
    have hs : szL [sF 1 (ps.map metF)] ≤ 100000000 := by rw [szL_cons, szL_nil]; omega
    have := encL_le (l := [sF 1 (ps.map metF)]) (ok_cons (sF_ok ⟨by decide, by decide⟩ _) ok_nil) hs
    dsimp only
    omega
theorem zero31 (b : List UInt8) (hl : b.length ≤ 100000000) : loop law31_OtlpBack_lp1 (b, 0) = some (.go ()) := by
  have L := loop_tot (f := law31_OtlpBack_lp1) (fun (s : List UInt8 × Int) => (b.length - s.2).toNat) (fun (s : List UInt8 × Int) => s.1.length = b.length ∧ 0 ≤ s.2) (fun _ => True) (by
    rintro ⟨m, i⟩ ⟨k1, k2⟩
    dsimp only at k1 k2
    unfold law31_OtlpBack_lp1
    dsimp only
    by_cases h : i < (m.length : Int)
    · left
      obtain ⟨x, hx⟩ := idx_ex k2 h
      obtain ⟨m', hm, lm⟩ := setI_ex (l := m) 0 k2 h
      rw [bifTd h, hx, bind_some, hm, bind_some, lett_eq, w64_id (by omega) (by omega)]
      exact ⟨_, rfl, ⟨by dsimp only; omega, by dsimp only; omega⟩, by dsimp only; omega⟩
    · right
      rw [bifFd h]
      exact ⟨_, rfl, trivial⟩) (b, 0) ⟨rfl, Int.le_refl _⟩
  obtain ⟨u, h, _⟩ := L
  exact h
/-- there and back -/
theorem otlpBack (ps : List api_Point) (b : List UInt8) (hi : ∀ p ∈ ps, IsP p) : law31_OtlpBack ps b = some true := by
  unfold law31_OtlpBack
  rw [awake31, bind_some, bifF (by rfl), rsome_eq 20 (by omega), bind_some]
  by_cases h : (decide ((ps.length : Int) ≤ 20) && ps.all lightP) = true
  case neg => rw [bifT (by rw [Bool.eq_false_iff.2 h]; rfl)]
  by_cases hb : b.length ≤ 2000
  case neg => rw [bifT (by rw [decide_eq_true (p := 2000 < (b.length : Int)) (by omega), Bool.or_true])]
  have h' := h
  simp only [Bool.and_eq_true, decide_eq_true_eq, List.all_eq_true] at h'
  have hw : ∀ p ∈ ps, Wr p := fun p hp => by
    have l := lightP_of (h'.2 p hp)
    have h1 := packL_len p.Hist.Pos.Counts
    have h2 := packL_len p.Hist.Neg.Counts
    have := l.lp; have := l.ln
    exact ⟨l.ok (hi p hp), by omega, by omega⟩
  have e1 := (Encode31 (ps := ps) hw (by omega)).1
  rw [bifF (by rw [h, decide_eq_false (p := 2000 < (b.length : Int)) (by omega)]; rfl)]
  have first : ((otlp_Encode ps).bind fun (r45, r46) =>
     bif decide (r46 = 0) then
     (otlp_Decode r45).bind fun (r59, r60) =>
     (flow (loop (law31_OtlpBack_lp1) (r45, 0)) fun (_ : Unit) =>
     some ()).bind fun (_ : Unit) =>
     (bif (!decide (r60 = 0)) then
     some true
     else
     (ref12_SameAll ps r59).bind fun r124 =>
     some (!r124) : Option Bool).bind fun x113 =>
     bif x113 then
     outs (some false)
     else
     some (.go ())
     else
     some (.go ()) : Option (Flow Unit Bool)) = some (.go ()) := by
    rw [e1, bind_some]
    by_cases hz : (outE ps).2 = 0
    · have he := ep_of hw hz
      obtain ⟨_, d1, d2⟩ := back31 he (fun p hp => (hi p hp).i) (by omega)
      dsimp only
      rw [bifTd hz, d1, bind_some]
      dsimp only
      rw [zero31 _ d2, flow_go, bind_some, bifF (by rfl), sameAll31 he (by omega), bind_some, bind_some]; rfl
    · dsimp only
      rw [bifFd hz]
  rw [first, flow_go]
  obtain ⟨qs, e, hd, h0, ho, hl⟩ := decodeA hb
  rw [hd, bind_some]
  dsimp only
  by_cases hz : e = 0
  case neg =>
    rw [bifT (by simp [hz]), h0 hz]; rfl
  rw [bifF (by simp [hz])]
  have he : ∀ p ∈ qs, EP p := fun p hp => (ho p hp).1
  have hw2 : ∀ p ∈ qs, Wr p := fun p hp => ⟨(he p hp).o, (he p hp).pp, (he p hp).pn⟩
  have e2 := (Encode31 (ps := qs) hw2 (by omega)).1
  obtain ⟨z2, d1, _⟩ := back31 he (fun p hp => (ho p hp).2) (by omega)
  rw [e2, bind_some]
  try dsimp only
  rw [d1, bind_some]
  dsimp only
  rw [z2, bifT (by rfl), sameAll31 he (by omega), bind_some, bind_some]
end Go.Lg
