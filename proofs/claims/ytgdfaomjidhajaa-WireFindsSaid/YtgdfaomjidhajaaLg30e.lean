/- Lemmas about the given model and about plain data, which the rows stand on: no statement of the program by itself. -/
import Derived.Test.YtgdfaomjidhajaaLg30d
set_option linter.unusedVariables false
namespace Go.Lg
attribute [local irreducible] w64 toU64 toU8 shlU shrU shlB shrB

/-! ### a field's bytes -/
structure FOk (f : api_Fld) : Prop where
  n1 : 1 ≤ f.Num
  n2 : f.Num ≤ 536870911
  t : f.Type_ = 0 ∨ f.Type_ = 1 ∨ f.Type_ = 2
  b : f.Type_ ≠ 2 → f.B = []
  v : f.Type_ = 2 → f.V = 0
def encF (f : api_Fld) : List UInt8 :=
  varL (8 * f.Num + f.Type_).toNat ++ (if f.Type_ = 0 then varL f.V.toNat else if f.Type_ = 1 then eightL f.V.toNat else varL f.B.length ++ f.B)
theorem field_ok {l : List UInt8} (hl : l.length ≤ 1000000) (h : (fieldS l).1 = 0) : FOk (fieldS l).2.1 ∧ encF (fieldS l).2.1 = l.take (fieldS l).2.2 ∧ 1 ≤ (fieldS l).2.2 ∧ (fieldS l).2.2 ≤ l.length := by
  by_cases h1 : (gv l).2.2 = 0
  case neg =>
    have e : fieldS l = ((gv l).2.2, F0, 0) := by unfold fieldS; rw [if_pos h1]
    rw [e] at h; exact absurd h h1
  obtain ⟨n, g1, g2, g3, g4⟩ := gv_ok h1
  generalize hg : gv l = g at *
  obtain ⟨v, n', e'⟩ := g
  simp only at h1 g1 g4
  subst h1; subst g1
  have hn : ((n : Int)).toNat = n := by omega
  have e0 : fieldS l = if 2 < v.toNat % 8 then (14, F0, 0)
    else if v.toNat / 8 < 1 ∨ 536870911 < v.toNat / 8 then (1, F0, 0)
    else if v.toNat % 8 = 1 then
      if l.length - n < 8 then (2, F0, 0)
      else (0, ⟨(v.toNat / 8 : Nat), 1, UInt64.ofNat (le8 ((l.drop n).take 8)), []⟩, n + 8)
    else if (gv (l.drop n)).2.2 ≠ 0 then ((gv (l.drop n)).2.2, F0, 0)
    else if v.toNat % 8 = 0 then (0, ⟨(v.toNat / 8 : Nat), 0, (gv (l.drop n)).1, []⟩, n + (gv (l.drop n)).2.1.toNat)
    else if l.length - (n + (gv (l.drop n)).2.1.toNat) < (gv (l.drop n)).1.toNat then (2, F0, 0)
    else (0, ⟨(v.toNat / 8 : Nat), 2, 0, (l.drop (n + (gv (l.drop n)).2.1.toNat)).take (gv (l.drop n)).1.toNat⟩, n + (gv (l.drop n)).2.1.toNat + (gv (l.drop n)).1.toNat) := by
    unfold fieldS; rw [hg, if_neg (by simp)]; rfl
  rw [e0] at h ⊢
  by_cases h2 : 2 < v.toNat % 8
  · rw [if_pos h2] at h; exact absurd h (by decide)
  rw [if_neg h2] at h ⊢
  by_cases h3 : v.toNat / 8 < 1 ∨ 536870911 < v.toNat / 8
  · rw [if_pos h3] at h; exact absurd h (by decide)
  rw [if_neg h3] at h ⊢
  have hv := UInt64.toNat_lt v
  by_cases h4 : v.toNat % 8 = 1
  · rw [if_pos h4] at h ⊢
    by_cases h5 : l.length - n < 8
    · rw [if_pos h5] at h; exact absurd h (by decide)
    rw [if_neg h5]
    have hd : (l.drop n).length = l.length - n := List.length_drop
    have h8 : ((l.drop n).take 8).length = 8 := by rw [List.length_take]; omega
    refine ⟨⟨by dsimp only; omega, by dsimp only; omega, .inr (.inl rfl), fun _ => rfl, fun h => absurd h (show ¬ ((1 : Int) = 2) by decide)⟩, ?_, by dsimp only; omega, by dsimp only; omega⟩
    unfold encF
    dsimp only
    have hb : le8 ((l.drop n).take 8) < 18446744073709551616 := by
      have := le8_lt ((l.drop n).take 8)
      rw [h8] at this
      have e : (256 : Nat) ^ 8 = 18446744073709551616 := by decide
      omega
    rw [if_neg (by decide), if_pos rfl, UInt64.toNat_ofNat', Nat.mod_eq_of_lt hb, eight_le h8, show (8 * ((v.toNat / 8 : Nat) : Int) + 1).toNat = v.toNat by omega, ← g4, ← List.take_add]
  rw [if_neg h4] at h ⊢
  by_cases h6 : (gv (l.drop n)).2.2 = 0
  case neg => rw [if_pos h6] at h; exact absurd h h6
  obtain ⟨m, k1, k2, k3, k4⟩ := gv_ok h6
  have hd : (l.drop n).length = l.length - n := List.length_drop
  rw [if_neg (by simp only [ne_eq]; exact fun e => e h6)] at h ⊢
  rw [k1] at h ⊢
  rw [show ((m : Int)).toNat = m by omega] at h ⊢
  by_cases h7 : v.toNat % 8 = 0
  · rw [if_pos h7]
    refine ⟨⟨by dsimp only; omega, by dsimp only; omega, .inl rfl, fun _ => rfl, fun h => absurd h (show ¬ ((0 : Int) = 2) by decide)⟩, ?_, by dsimp only; omega, by dsimp only; omega⟩
    unfold encF
    dsimp only
    rw [if_pos rfl, show (8 * ((v.toNat / 8 : Nat) : Int) + 0).toNat = v.toNat by omega, ← g4, ← k4, ← List.take_add]
  rw [if_neg h7] at h ⊢
  by_cases h9 : l.length - (n + m) < (gv (l.drop n)).1.toNat
  · rw [if_pos h9] at h; exact absurd h (by decide)
  rw [if_neg h9]
  refine ⟨⟨by dsimp only; omega, by dsimp only; omega, .inr (.inr rfl), fun h => absurd rfl h, fun _ => rfl⟩, ?_, by dsimp only; omega, by dsimp only; omega⟩
  unfold encF
  dsimp only
  have hbl : ((l.drop (n + m)).take (gv (l.drop n)).1.toNat).length = (gv (l.drop n)).1.toNat := by rw [List.length_take, List.length_drop]; omega
  rw [if_neg (by decide), if_neg (by decide), hbl, show (8 * ((v.toNat / 8 : Nat) : Int) + 2).toNat = v.toNat by omega, ← g4, ← k4, ← List.append_assoc, ← List.take_add, ← List.take_add]
def encL (l : List api_Fld) : List UInt8 := l.flatMap encF
theorem encL_snoc (l : List api_Fld) (f : api_Fld) : encL (l ++ [f]) = encL l ++ encF f := by simp [encL]
theorem check_ok {f : api_Fld} (h : FOk f) : wire_check f = some 0 := by
  have a := h.n1; have b := h.n2; have t := h.t
  unfold wire_check
  rw [lett_eq, bifF (by rw [Bool.or_eq_false_iff]; exact ⟨decide_eq_false (by omega), decide_eq_false (by omega)⟩), lett_eq, bifF (by rw [Bool.or_eq_false_iff]; exact ⟨decide_eq_false (by omega), decide_eq_false (by omega)⟩), lett_eq]
  by_cases t2 : f.Type_ = 2
  · rw [bifF (by rw [decide_eq_true t2]; rfl), lett_eq, bifF (by rw [h.v t2, decide_eq_true t2]; rfl)]
  · rw [bifF (by rw [h.b t2, Bool.and_eq_false_iff]; exact .inr (decide_eq_false (by simp))), lett_eq, bifF (by rw [decide_eq_false t2]; rfl)]
theorem encF_tag (f : api_Fld) (h : FOk f) : (toU64 (w64 ((w64 (8 * f.Num)) + f.Type_))).toNat = (8 * f.Num + f.Type_).toNat := by
  have a := h.n1; have b := h.n2; have t := h.t
  rw [w64_id (x := 8 * f.Num) (by omega) (by omega), w64_id (by omega) (by omega), toU64_val (by omega) (by omega)]
theorem Encode_step {l : List api_Fld} {i : Nat} (h : i < l.length) (hn : l.length ≤ 1000000) (hf : FOk l[i]) {out : List UInt8} (hl : out.length + (encF l[i]).length ≤ 1000000) :
    wire_Encode_lp1 l (out, (i : Int)) = some (.next (out ++ encF l[i], ((i + 1 : Nat) : Int))) := by
  have t := hf.t
  have ht := encF_tag _ hf
  unfold wire_Encode_lp1
  dsimp only
  rw [bifTd (by omega), idx_nat h, bind_some, check_ok hf, bind_some, bifF (by rfl), WVar_eq, ht, bind_some]
  have hE : encF l[i] = varL (8 * l[i].Num + l[i].Type_).toNat ++ (if l[i].Type_ = 0 then varL l[i].V.toNat else if l[i].Type_ = 1 then eightL l[i].V.toNat else varL l[i].B.length ++ l[i].B) := rfl
  rw [hE] at hl ⊢
  rw [List.length_append] at hl
  rw [app_ok (by omega), bind_some, lett_eq]
  by_cases t0 : l[i].Type_ = 0
  · rw [if_pos t0] at hl ⊢
    rw [bifTd t0, WVar_eq, bind_some, app_ok (by rw [List.length_append]; omega), bind_some, bind_some, w64_succ (by omega), List.append_assoc]
  · rw [if_neg t0] at hl ⊢
    rw [bifFd t0, lett_eq]
    by_cases t1 : l[i].Type_ = 1
    · rw [if_pos t1] at hl ⊢
      rw [bifTd t1, Weight_eq, bind_some, app_ok (by rw [List.length_append]; omega), bind_some, bind_some, w64_succ (by omega), List.append_assoc]
    · have t2 : l[i].Type_ = 2 := by omega
      rw [if_neg t1] at hl ⊢
      rw [List.length_append] at hl
      rw [bifFd t1, lett_eq, bifTd t2, WVar_eq, toU64_nat (by omega), bind_some, app_ok (by rw [List.length_append]; omega), bind_some, app_ok (by rw [List.length_append, List.length_append]; omega), bind_some, bind_some, w64_succ (by omega), List.append_assoc, List.append_assoc]
theorem Encode_eq {l : List api_Fld} (hf : ∀ f ∈ l, FOk f) (hl : (encL l).length ≤ 1000000) (hn : l.length ≤ 1000000) : wire_Encode l = some (encL l, 0) := by
  have key : ∀ (m i : Nat), i + m = l.length → loop (wire_Encode_lp1 l) (encL (l.take i), (i : Int)) = some (.go (encL l)) := by
    intro m
    induction m with
    | zero =>
      intro i hi
      refine loop_brk ?_
      unfold wire_Encode_lp1
      dsimp only
      rw [bifFd (by omega), List.take_of_length_le (by omega)]
    | succ m ih =>
      intro i hi
      have hlt : i < l.length := by omega
      have ht : l.take (i + 1) = l.take i ++ [l[i]] := by rw [List.take_add_one, List.getElem?_eq_getElem hlt]; rfl
      have hs : encL l = encL (l.take i) ++ encF l[i] ++ encL (l.drop (i + 1)) := by
        rw [← encL_snoc, ← ht]
        unfold encL
        rw [← List.flatMap_append, List.take_append_drop]
      have hlen := congrArg List.length hs
      simp only [List.length_append] at hlen
      rw [loop_next (Encode_step hlt hn (hf _ (List.getElem_mem hlt)) (by omega)), ← encL_snoc, ← ht]
      exact ih (i + 1) (by omega)
  have k0 : loop (wire_Encode_lp1 l) ([], 0) = _ := key l.length 0 (by omega)
  unfold wire_Encode
  rw [k0, flow_go]

/-! ### the document's way to read -/
theorem Rdec_step {b : List UInt8} {at_ : Nat} (hl : b.length ≤ 1000000) (h : at_ < b.length) (l : List api_Fld) (hn : l.length ≤ 1000000) :
    ref30_Decode_lp1 b (l, (at_ : Int)) = if (fieldS (b.drop at_)).1 = 0 then some (.next (l ++ [(fieldS (b.drop at_)).2.1], ((at_ + (fieldS (b.drop at_)).2.2 : Nat) : Int))) else some (.out ⟨[], at_, (fieldS (b.drop at_)).1⟩) := by
  have hdl : (b.drop at_).length = b.length - at_ := List.length_drop
  unfold ref30_Decode_lp1
  dsimp only
  rw [bifTd (by omega), RGet_eq hl (by omega), bind_some]
  by_cases h1 : (gv (b.drop at_)).2.2 = 0
  case neg =>
    have e : fieldS (b.drop at_) = ((gv (b.drop at_)).2.2, F0, 0) := by unfold fieldS; rw [if_pos h1]
    rw [bifT (by rw [Bool.not_eq_true', decide_eq_false_iff_not]; exact h1), e, if_neg h1]; rfl
  obtain ⟨n, g1, g2, g3, g4⟩ := gv_ok h1
  generalize hg : gv (b.drop at_) = g at *
  obtain ⟨v, n', e'⟩ := g
  simp only at h1 g1 g4
  subst h1; subst g1
  have hn' : ((n : Int)).toNat = n := by omega
  dsimp only
  have m8 : (v % 8).toNat = v.toNat % 8 := by rw [UInt64.toNat_mod]; rfl
  have d8 : (v / 8).toNat = v.toNat / 8 := by rw [UInt64.toNat_div]; rfl
  have hv := UInt64.toNat_lt v
  rw [bifF (by rfl)]
  by_cases h2 : 2 < v.toNat % 8
  · have e : fieldS (b.drop at_) = (14, F0, 0) := by unfold fieldS; rw [hg, if_neg (by simp), if_pos h2]
    rw [bifTd (by rw [UInt64.lt_iff_toNat_lt, m8, n2]; exact h2), e]; rfl
  rw [bifFd (by rw [UInt64.lt_iff_toNat_lt, m8, n2]; exact h2)]
  by_cases h3 : v.toNat / 8 < 1 ∨ 536870911 < v.toNat / 8
  · have e : fieldS (b.drop at_) = (1, F0, 0) := by unfold fieldS; rw [hg, if_neg (by simp), if_neg h2, if_pos h3]
    rw [bifT (by rw [Bool.or_eq_true, decide_eq_true_eq, decide_eq_true_eq, UInt64.lt_iff_toNat_lt, UInt64.lt_iff_toNat_lt, d8, n1, nM]; exact h3), e]; rfl
  rw [bifF (by rw [Bool.or_eq_false_iff, decide_eq_false_iff_not, decide_eq_false_iff_not, UInt64.lt_iff_toNat_lt, UInt64.lt_iff_toNat_lt, d8, n1, nM]; omega), m8, d8, w64_nat (a := v.toNat % 8) (by omega), w64_nat (a := v.toNat / 8) (by omega), w64_addN (by omega), lett_eq]
  by_cases h4 : v.toNat % 8 = 1
  · rw [bifTd (by omega), w64_id (x := (b.length : Int) - ((at_ + n : Nat) : Int)) (by omega) (by omega)]
    by_cases h5 : b.length - (at_ + n) < 8
    · have e : fieldS (b.drop at_) = (2, F0, 0) := by unfold fieldS; rw [hg, if_neg (by simp), if_neg h2, if_neg h3, if_pos h4, if_pos (by dsimp only; omega)]
      rw [bifTd (by omega), e]; rfl
    · have e : fieldS (b.drop at_) = (0, ⟨((v.toNat / 8 : Nat) : Int), 1, UInt64.ofNat (le8 (((b.drop at_).drop n).take 8)), []⟩, n + 8) := by unfold fieldS; rw [hg, if_neg (by simp), if_neg h2, if_neg h3, if_pos h4, if_neg (by dsimp only; omega)]; rfl
      have ed : (b.drop at_).drop n = b.drop (at_ + n) := by rw [List.drop_drop]
      rw [bifFd (by omega), Rfield_lp b (at_ + n) hl (by omega), flow_go, bind_some, show ((at_ + n : Nat) : Int) + 8 = ((at_ + n + 8 : Nat) : Int) by omega, w64_nat (by omega), lett_eq, flow_go]
      dsimp only
      rw [app_ok (by simp only [List.length_singleton]; omega), bind_some, flow_go, e, if_pos rfl, h4, ed]
      dsimp only
      rw [Nat.add_assoc]; rfl
  have edd : b.drop (at_ + n) = (b.drop at_).drop n := by rw [List.drop_drop]
  rw [bifFd (by omega), RGet_eq hl (by omega), bind_some, edd]
  by_cases h6 : (gv ((b.drop at_).drop n)).2.2 = 0
  case neg =>
    have e : fieldS (b.drop at_) = ((gv ((b.drop at_).drop n)).2.2, F0, 0) := by unfold fieldS; rw [hg, if_neg (by simp), if_neg h2, if_neg h3, if_neg h4]; dsimp only; rw [hn', if_pos h6]
    rw [bifT (by rw [Bool.not_eq_true', decide_eq_false_iff_not]; exact h6), e, if_neg h6]; rfl
  obtain ⟨m, k1, k2, k3, k4⟩ := gv_ok h6
  have hdl2 : ((b.drop at_).drop n).length = b.length - (at_ + n) := by rw [List.length_drop]; omega
  generalize hg2 : gv ((b.drop at_).drop n) = g2' at *
  obtain ⟨v2, n2', e2'⟩ := g2'
  simp only at h6 k1 k4
  subst h6; subst k1
  dsimp only
  have hm : ((m : Int)).toNat = m := by omega
  rw [bifF (by rfl), w64_addN (by omega), lett_eq]
  by_cases h7 : v.toNat % 8 = 0
  · have e : fieldS (b.drop at_) = (0, ⟨((v.toNat / 8 : Nat) : Int), 0, v2, []⟩, n + m) := by unfold fieldS; rw [hg, if_neg (by simp), if_neg h2, if_neg h3, if_neg h4]; dsimp only; rw [hn', hg2, if_neg (by simp), if_pos h7]; rfl
    rw [bifTd (by omega), flow_go]
    dsimp only
    rw [app_ok (by simp only [List.length_singleton]; omega), bind_some, flow_go, e, if_pos rfl, h7]
    dsimp only
    rw [Nat.add_assoc]; rfl
  rw [bifFd (by omega)]
  have e8 : (toU64 (w64 ((b.length : Int) - ((at_ + n + m : Nat) : Int)))).toNat = b.length - (at_ + n + m) := by
    rw [w64_subN (by omega) (by omega), toU64_nat (by omega)]
  by_cases h9 : b.length - (at_ + n + m) < v2.toNat
  · have e : fieldS (b.drop at_) = (2, F0, 0) := by unfold fieldS; rw [hg, if_neg (by simp), if_neg h2, if_neg h3, if_neg h4]; dsimp only; rw [hn', hg2, if_neg (by simp), if_neg h7, if_pos (by dsimp only; omega)]
    rw [bifTd (by rw [UInt64.lt_iff_toNat_lt, e8]; exact h9), e]; rfl
  · have e : fieldS (b.drop at_) = (0, ⟨((v.toNat / 8 : Nat) : Int), 2, 0, ((b.drop at_).drop (n + m)).take v2.toNat⟩, n + m + v2.toNat) := by unfold fieldS; rw [hg, if_neg (by simp), if_neg h2, if_neg h3, if_neg h4]; dsimp only; rw [hn', hg2, if_neg (by simp), if_neg h7, if_neg (by dsimp only; omega)]; rfl
    have ed : (b.take (at_ + n + m + v2.toNat)).drop (at_ + n + m) = ((b.drop at_).drop (n + m)).take v2.toNat := by
      rw [List.drop_drop, List.drop_take, Nat.add_assoc at_ n m]; congr 1; omega
    rw [bifFd (by rw [UInt64.lt_iff_toNat_lt, e8]; exact h9), w64_nat (a := v2.toNat) (by omega), w64_addN (by omega), slc_nat (by omega) (by omega), bind_some, ed, lett_eq, flow_go]
    dsimp only
    rw [app_ok (by simp only [List.length_singleton]; omega), bind_some, flow_go, e, if_pos rfl, show v.toNat % 8 = 2 by omega]
    dsimp only
    rw [Nat.add_assoc, Nat.add_assoc, Nat.add_assoc]; rfl
theorem Wdec_step {b : List UInt8} {at_ : Nat} (hl : b.length ≤ 1000000) (h : at_ < b.length) (l : List api_Fld) (hn : l.length ≤ 1000000) :
    wire_Decode_lp1 b (l, (at_ : Int)) = if (fieldS (b.drop at_)).1 = 0 then some (.next (l ++ [(fieldS (b.drop at_)).2.1], ((at_ + (fieldS (b.drop at_)).2.2 : Nat) : Int))) else some (.out ([], at_, (fieldS (b.drop at_)).1)) := by
  obtain ⟨f, nx, h1, h2⟩ := Wfield_eq hl (Nat.le_of_lt h)
  unfold wire_Decode_lp1
  dsimp only
  rw [bifTd (by omega), h1, bind_some]
  dsimp only
  by_cases h0 : (fieldS (b.drop at_)).1 = 0
  · obtain ⟨e1, e2⟩ := h2 h0
    rw [bifF (by rw [Bool.not_eq_false', decide_eq_true_eq]; exact h0), app_ok (by simp only [List.length_singleton]; omega), bind_some, if_pos h0, e1, e2]
  · rw [bifT (by rw [Bool.not_eq_true', decide_eq_false_iff_not]; exact h0), if_neg h0]; rfl
/-- both read alike; what they take has these very bytes -/
theorem decode_both {b : List UInt8} (hl : b.length ≤ 1000000) :
    (∃ L, wire_Decode b = some (L, 0, 0) ∧ ref30_Decode b = some ⟨L, 0, 0⟩ ∧ (∀ f ∈ L, FOk f) ∧ encL L = b ∧ L.length ≤ b.length) ∨ (∃ (a : Nat) (e : Int), e ≠ 0 ∧ wire_Decode b = some ([], (a : Int), e) ∧ ref30_Decode b = some ⟨[], (a : Int), e⟩) := by
  have key : ∀ (m at_ : Nat) (l : List api_Fld), at_ + m = b.length → (∀ f ∈ l, FOk f) → encL l = b.take at_ → l.length ≤ at_ →
      (∃ L, loop (wire_Decode_lp1 b) (l, (at_ : Int)) = some (.go L) ∧ loop (ref30_Decode_lp1 b) (l, (at_ : Int)) = some (.go L) ∧ (∀ f ∈ L, FOk f) ∧ encL L = b ∧ L.length ≤ b.length) ∨
      (∃ (a : Nat) (e : Int), e ≠ 0 ∧ loop (wire_Decode_lp1 b) (l, (at_ : Int)) = some (.out ([], a, e)) ∧ loop (ref30_Decode_lp1 b) (l, (at_ : Int)) = some (.out ⟨[], a, e⟩)) := by
    intro m
    induction m using Nat.strongRecOn with
    | _ m ih =>
      intro at_ l hm hf he hn
      by_cases h : at_ < b.length
      · have w1 := Wdec_step hl h l (by omega)
        have w2 := Rdec_step hl h l (by omega)
        by_cases h0 : (fieldS (b.drop at_)).1 = 0
        · rw [if_pos h0] at w1 w2
          have hd : (b.drop at_).length = b.length - at_ := List.length_drop
          obtain ⟨q1, q2, q3, q4⟩ := field_ok (l := b.drop at_) (by omega) h0
          rw [loop_next w1, loop_next w2]
          refine ih (m - (fieldS (b.drop at_)).2.2) (by omega) _ _ (by omega) ?_ ?_ (by simp only [List.length_append, List.length_singleton]; omega)
          · intro f hf'
            rcases List.mem_append.1 hf' with h | h
            · exact hf f h
            · rw [List.mem_singleton.1 h]; exact q1
          · rw [encL_snoc, he, q2, ← List.take_add]
        · rw [if_neg h0] at w1 w2
          exact .inr ⟨at_, _, h0, loop_out w1, loop_out w2⟩
      · have hb : at_ = b.length := by omega
        refine .inl ⟨l, loop_brk ?_, loop_brk ?_, hf, by rw [he, List.take_of_length_le (by omega)], by omega⟩
        · unfold wire_Decode_lp1
          dsimp only
          rw [bifFd (by omega)]
        · unfold ref30_Decode_lp1
          dsimp only
          rw [bifFd (by omega)]
  unfold wire_Decode ref30_Decode
  rcases key b.length 0 [] (by omega) (by simp) (by simp [encL]) (by simp) with ⟨L, k1, k2, k3⟩ | ⟨a, e, k0, k1, k2⟩
  · have k1' : loop (wire_Decode_lp1 b) ([], 0) = _ := k1
    have k2' : loop (ref30_Decode_lp1 b) ([], 0) = _ := k2
    rw [k1', k2']
    exact .inl ⟨L, rfl, rfl, k3⟩
  · have k1' : loop (wire_Decode_lp1 b) ([], 0) = _ := k1
    have k2' : loop (ref30_Decode_lp1 b) ([], 0) = _ := k2
    rw [k1', k2']
    exact .inr ⟨a, e, k0, rfl, rfl⟩
theorem Same30 {l : List api_Fld} (hl : l.length ≤ 1000000) : ref30_Same l l = some true := by
  have key : ∀ (m i : Nat), i + m = l.length → loop (ref30_Same_lp1 l l) (i : Int) = some (.go ()) := by
    intro m
    induction m with
    | zero =>
      intro i hi
      refine loop_brk ?_
      unfold ref30_Same_lp1
      rw [bifFd (by omega)]
    | succ m ih =>
      intro i hi
      rw [loop_next (s' := ((i + 1 : Nat) : Int)), ih (i + 1) (by omega)]
      unfold ref30_Same_lp1
      rw [bifTd (by omega), idx_nat (by omega), bind_some, bind_some, bifF (by simp), bind_some, bind_some, bind_some, bifF (by simp), bind_some, bind_some, bind_some, bifF (by simp), bind_some, bind_some, bind_some, bifF (by simp), lett_eq, w64_succ (by omega)]
  have h0 : loop (ref30_Same_lp1 l l) 0 = _ := key l.length 0 (by omega)
  unfold ref30_Same
  rw [bifF (by simp), h0]; rfl
end Go.Lg
